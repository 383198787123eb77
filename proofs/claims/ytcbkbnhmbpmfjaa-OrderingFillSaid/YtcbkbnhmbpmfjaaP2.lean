/- A part of the proof: what it holds is said by each theorem. -/
import Derived.Shelf.Sort.Plain
import Derived.Ground.Names2Prog
import Derived.Shelf.Slices.Delete
import Derived.Maps.RangeWalk
import Derived.Maps.OwnSet
import Derived.Maps.AppendAt
import Derived.Sort.OwnSortedInts
import Derived.Sort.KeysCollected
import Derived.OwnWalk
import Derived.IntWalk
import Derived.Test.YtcbkbnhmbpmfjaaP1
set_option linter.unusedVariables false
set_option linter.defProp false
set_option linter.unusedSimpArgs false
namespace Go.Proofs
open Go.Shelf
open Go.RowKit Go.Lib Go.Sort
def Try.lays189_ren : Go.Shelf.Ren := ⟨fun | 189 => 68 | 125 => 79 | 257 => 78 | 128 => 99 | 129 => 100 | 294 => 91 | 295 => 92 | 296 => 93 | 297 => 94 | 298 => 95 | 299 => 96 | 216 => 66 | 300 => 97 | 301 => 98 | 328 => 110 | 329 => 111 | 330 => 112 | 331 => 113 | 332 => 114 | 215 => 77 | 343 => 120 | n => n, fun | 28 => 22 | 3 => 3 | 46 => 100 | 0 => 0 | 51 => 92 | 53 => 66 | 4 => 4 | 183 => 123 | 182 => 122 | 131 => 88 | 5 => 5 | 9 => 9 | 218 => 137 | 222 => 141 | 228 => 147 | 229 => 148 | n => n, fun | n => n⟩
theorem Try.lays189 : Go.Proofs.Lays.n189 Try.prog Try.lays189_ren := {
  mixed := by kernel_rfl
  f125 := Try.func79.trans (congrArg some (by kernel_rfl))
  f128 := Try.func99.trans (congrArg some (by kernel_rfl))
  f129 := Try.func100.trans (congrArg some (by kernel_rfl))
  f189 := Try.func68.trans (congrArg some (by kernel_rfl))
  f215 := Try.func77.trans (congrArg some (by kernel_rfl))
  f216 := Try.func66.trans (congrArg some (by kernel_rfl))
  f257 := Try.func78.trans (congrArg some (by kernel_rfl))
  f294 := Try.func91.trans (congrArg some (by kernel_rfl))
  f295 := Try.func92.trans (congrArg some (by kernel_rfl))
  f296 := Try.func93.trans (congrArg some (by kernel_rfl))
  f297 := Try.func94.trans (congrArg some (by kernel_rfl))
  f298 := Try.func95.trans (congrArg some (by kernel_rfl))
  f299 := Try.func96.trans (congrArg some (by kernel_rfl))
  f300 := Try.func97.trans (congrArg some (by kernel_rfl))
  f301 := Try.func98.trans (congrArg some (by kernel_rfl))
  f328 := Try.func110.trans (congrArg some (by kernel_rfl))
  f329 := Try.func111.trans (congrArg some (by kernel_rfl))
  f330 := Try.func112.trans (congrArg some (by kernel_rfl))
  f331 := Try.func113.trans (congrArg some (by kernel_rfl))
  f332 := Try.func114.trans (congrArg some (by kernel_rfl))
  f343 := Try.func120.trans (congrArg some (by kernel_rfl))
  t0 := Try.underlying0
  a0 := Try.isAgg0
  z0 := Try.sizeOf0
  v0 := Try.zeroValue0
  t3 := Try.underlying3
  a3 := Try.isAgg3
  z3 := Try.sizeOf3
  v3 := Try.zeroValue3
  t4 := Try.underlying4
  a4 := Try.isAgg4
  z4 := Try.sizeOf4
  v4 := Try.zeroValue4
  t5 := Try.underlying5
  a5 := Try.isAgg5
  z5 := Try.sizeOf5
  v5 := Try.zeroValue5
  t9 := Try.underlying9
  a9 := Try.isAgg9
  z9 := Try.sizeOf9
  v9 := Try.zeroValue9
  t28 := Try.underlying22
  a28 := Try.isAgg22
  z28 := Try.sizeOf22
  v28 := Try.zeroValue22
  t46 := Try.underlying100
  a46 := Try.isAgg100
  z46 := Try.sizeOf100
  v46 := Try.zeroValue100
  t51 := Try.underlying92
  a51 := Try.isAgg92
  z51 := Try.sizeOf92
  v51 := Try.zeroValue92
  t53 := Try.underlying66
  a53 := Try.isAgg66
  z53 := Try.sizeOf66
  v53 := Try.zeroValue66
  t131 := Try.underlying88
  a131 := Try.isAgg88
  z131 := Try.sizeOf88
  v131 := Try.zeroValue88
  t182 := Try.underlying122
  a182 := Try.isAgg122
  z182 := Try.sizeOf122
  v182 := Try.zeroValue122
  t183 := Try.underlying123
  a183 := Try.isAgg123
  z183 := Try.sizeOf123
  v183 := Try.zeroValue123
  t218 := Try.underlying137
  a218 := Try.isAgg137
  z218 := Try.sizeOf137
  v218 := Try.zeroValue137
  t222 := Try.underlying141
  a222 := Try.isAgg141
  z222 := Try.sizeOf141
  v222 := Try.zeroValue141
  t228 := Try.underlying147
  a228 := Try.isAgg147
  z228 := Try.sizeOf147
  v228 := Try.zeroValue147
  t229 := Try.underlying148
  a229 := Try.isAgg148
  z229 := Try.sizeOf148
  v229 := Try.zeroValue148 }
open Go.Sort Go.RowKit in
theorem Try.slices_Sort_int (blk off cap : Nat) (zs : List Int) (w : World) (hH : Holds (Value.int .i64) w blk off zs.toArray) (hblk : blk < w.heap.size) (hsz : zs.length < 4611686018427387904) :
    Calls Try.prog 68 #[.slice (some ⟨blk, off, none⟩) zs.length cap] w fun e w' =>
      e = .returned (.tuple #[]) ∧ ∃ n os, w' = grow (putRow (Value.int .i64) (Sort.ahead w n) blk off (zs.mergeSort fun x y => decide (x ≤ y)).toArray) os := Any.slices_Sort_int Try.lays189 blk off cap zs w hH hblk hsz
def Try.laysNm223_ren : Go.Shelf.Ren := ⟨fun | 23 => 41 | n => n, fun | 22 => 22 | 3 => 3 | 4 => 4 | 0 => 0 | n => n, fun | n => n⟩
theorem Try.laysNm223 : Go.Proofs.Lays2.n23 Try.prog Try.laysNm223_ren := {
  mixed := by kernel_rfl
  f23 := Try.func41.trans (congrArg some (by kernel_rfl))
  t0 := Try.underlying0
  a0 := Try.isAgg0
  z0 := Try.sizeOf0
  v0 := Try.zeroValue0
  t3 := Try.underlying3
  a3 := Try.isAgg3
  z3 := Try.sizeOf3
  v3 := Try.zeroValue3
  t4 := Try.underlying4
  a4 := Try.isAgg4
  z4 := Try.sizeOf4
  v4 := Try.zeroValue4
  t22 := Try.underlying22
  a22 := Try.isAgg22
  z22 := Try.sizeOf22
  v22 := Try.zeroValue22
  i3 := by kernel_rfl }
theorem Try.slices_Delete_int (blk off cap i j : Nat) (zs : List Int) (w : World) (hH : Holds (Value.int .i64) w blk off zs.toArray) (hcap : zs.length ≤ cap) (hm : cap ≤ 9223372036854775807) (hij : i ≤ j) (hj : j ≤ zs.length) :
    Calls Try.prog 41 #[.slice (some ⟨blk, off, none⟩) zs.length cap, .int .i64 i, .int .i64 j] w fun e w' => e = .returned (.slice (some ⟨blk, off, none⟩) (zs.length - (j - i)) cap) ∧ ∃ q, w' = putRow (Value.int .i64) (Sort.ahead w q) blk off (zs.take i ++ zs.drop j ++ List.replicate (j - i) 0).toArray := Any.slices_Delete_int Try.laysNm223 blk off cap i j zs w hH hcap hm hij hj
end Go.Proofs

namespace Go.Proofs.Nb
open Go.RowKit Go.Maps Go.Sort Go.MapKept
theorem aW:Keyed Try.prog 3:=int_keyed Try.underlying3
theorem aX:(Try.prog.info? 3).map (fun i=>(i.zero,i.size,i.bytes))=some (some (.int .i64 0),1,8):=by kernel_rfl
section
variable {H:Type} {D0:DataW H} {left:Lit→Bool} {ss:List Int}
def CollectedI (D0:DataW H) (left:Lit→Bool) (ss:List Int):Prop:=ss.Nodup∧∀ x,x ∈ ss↔(has D0 (.int .i64 x)=true∧left (.int .i64 x)=false)
theorem CollectedI.start (D0:DataW H):CollectedI D0 (has D0) []:=⟨List.nodup_nil,fun x=>by cases has D0 (.int .i64 x)<;>simp⟩
theorem CollectedI.step (h:CollectedI D0 left ss) {x:Int} {y:DataW H} (hlk:left (.int .i64 x)=true) (hat:∀ zd,D0.atKey (.int .i64 x) zd=y):CollectedI D0 (fun z=>left z&&!z.sameKey (.int .i64 x)) (ss++[x]):=by
 have hhas:has D0 (.int .i64 x)=true:=has_true_of_atKey hat
 have hnew:x ∉ ss:=fun hx=>by have:=((h.2 x).1 hx).2;rw[hlk] at this;cases this
 refine⟨List.nodup_append.2 ⟨h.1,by simp,fun a ha b hb=>by simp at hb;subst hb;exact fun e=>hnew (e▸ha)⟩,fun y=>?_⟩
 by_cases hy:y=x
 ·subst hy;simp[hhas,Lit.sameKey]
 ·simp[h.2 y,hy,Lit.sameKey]
end
theorem RQ {w w1:World} {a:Addr} {v:Value} (hg:w.grownBy w1 none) (h:w.cell? a=some v):w1.cell? a=some v:=by
 have hlt:a.block<w.heap.size:=by
  rcases Nat.lt_or_ge a.block w.heap.size with hl | hl
  ·exact hl
  ·simp[World.cell?,Array.getElem?_eq_none hl] at h
 have:=hg.block a.block hlt (by simp)
 unfold World.cell? at h ⊢
 rw[this];exact h
set_option maxRecDepth 100000 in
set_option maxHeartbeats 1000000 in
theorem walk {H:Type} (k b kk n:Nat) (c:Int) (D0:DataW H) (w:World) (h0:0≤c) (h1:c<(b:Int)) (hcell:w.cell? ⟨k,c.toNat,none⟩=some (.map (some kk))) (hown:w.ownsMap Try.prog 3 (plainElem Try.prog 4) kk n D0) (hmax:Maps.size D0≤16777216) :
  Calls Try.prog 52 #[.slice (some ⟨k,0,none⟩) b b,.int .i64 c] w fun e w'=>∃ (ss:List Int),e=.returned (.slice (some ⟨w.heap.size,0,none⟩) ss.length (Maps.size D0))∧ss.Nodup∧(∀ x,x ∈ ss↔has D0 (.int .i64 x)=true) ∧
   w'.ownsRow w.heap.size 3 1 (.slice (some ⟨w.heap.size,0,none⟩) ss.length (Maps.size D0)) ss.length ((ss.mergeSort (fun x y=>decide (x≤y))).map (Value.int .i64))∧Below w.heap.size w w':=by
 obtain⟨i0,hi,hz0,hz1,hz2⟩:=info_parts aX
 have hbl:=hown.lt
 have hc2:c<b:=h1
 go_enter Try.func52,Try.ntmps52
 go_wp2_with (first
  | (at_len;refine wpList_len_own _ rfl _ 68 rfl 3 4 Try.underlying68 _ kk n _ rfl hown ?_)
  | (at_make;refine wpList_make_own _ rfl _ _ 22 rfl w.heap.size 3 i0 (.int .i64 0) 1 Try.underlying22 hi hz0 hz1 _ _ _ (Maps.size D0) rfl rfl rfl (by rw[hz2];omega) (by unfold maxLen;omega) (Nat.le_refl _) ?_;intro w1 hrow1 hg1;have hcell1:=RQ hg1 hcell)
  | (at_range;refine wpList_range_own _ rfl _ 68 rfl 3 4 aW Try.underlying68 _ kk n _ rfl (hown.kept hg1 (by simp)) ?_;intro w0 hrg0 hg0 hs0)
  | go_in)
 go_frame
 go_loopw [5] (fun v wr=>∃ (left:Lit→Bool) (cnt:Nat) (ss:List Int),wr.ranges Try.prog 3 (plainElem Try.prog 4) kk w1.heap.size n D0 left cnt∧ss.length+cnt≤Maps.size D0 ∧
   v=.slice (some ⟨w.heap.size,0,none⟩) ss.length (Maps.size D0)∧wr.ownsRow w.heap.size 3 1 v ss.length (ss.map (Value.int .i64))∧CollectedI D0 left ss∧Below w.heap.size w wr)
  (fun _ wr=>wr.rangeLeft kk w1.heap.size)
 case atStart =>
  exact⟨_,_,[],hrg0,by simp,rfl,hrow1.kept hg0 (Or.inr (by simp[Value.ownBlock])),CollectedI.start D0,
   ((Below.refl _ _).grown hg1 (Nat.le_refl _) (fun j hj=>by cases hj)).grown hg0 hg1.size (fun j hj=>by cases hj)⟩
 case round =>
  obtain⟨left,cnt,ss,hrg,hcs,rfl,hrow,hC,hnx⟩:=hrel
  go_wp2_with (first
   | (at_next;refine wpList_next_ranges _ rfl _ rfl 3 aW (plainElem Try.prog 4) (Value.int .i64) (id:Value→Value) (fun key kl hk=>by obtain⟨x,hx,_⟩:=Maps.keyOf_int_inv Try.underlying3 hk;exact⟨x,hx⟩) (fun v y hv=>⟨v,rfl⟩) kk w1.heap.size n _ _ _ rfl hrg ?_ ?_)
   | go_in)
  ·intro hc0 hl0
   rcases hrow.2 with⟨hnil,_⟩ | ⟨g,cap,cur,hv,hbase,hb,e1,e2,e3,e4⟩
   ·cases hnil
   cases hv
   have hH:Holds (Value.int .i64) _ w.heap.size 0 ss.toArray:=holds_of_blockI hb (by simpa using e4)
   have hgl:=(Array.getElem?_eq_some_iff.1 hb).1
   have hsort:=Try.slices_Sort_int w.heap.size 0 (Maps.size D0) ss _ hH hgl (by omega)
   go_wp2_with (go_at_call 68;refine hsort.mono ?_;rintro e w' ⟨rfl,nn,os,rfl⟩)
   go_ret
   refine⟨ss,rfl,hC.1,fun x=>by rw[hC.2 x,hl0];simp,ownsRow_sortedI (by simp) hbase hb e1 e2 e3,hnx.grown (grownBy_sortedI _) hnx.size (fun j hj=>by cases hj;exact hbase)⟩
  ·intro x cc kl yd yp w2 cnt2 hkey hlk hv hat hrg2 hlt hg2 hs2 hen
   obtain⟨x',ex,rfl,_⟩:=Maps.keyOf_int_inv Try.underlying3 hkey
   obtain rfl:x=x':=by simpa using ex
   have hrow2:=hrow.kept hg2 (Or.inr (row_ne_iter hrow hrg).symm)
   clear hs2
   go_wp2_with (first
    | (at_builtin;refine wpList_append_fits _ rfl _ _ 22 rfl w.heap.size 3 i0 1 Try.underlying22 hi hz1 w.heap.size _ (Maps.size D0) _ rfl (hrow2.alloc _) ⟨w2.heap.size,0,none⟩ 1 1 [Value.int .i64 x] rfl rfl (cell_one_new _ _ _) (by simp[Value.oneCell']) (by omega) ?_;intro w3 hown3 hg3;go_frame)
    | go_in)
   have hrg3:=(hrg2.alloc _).kept hg3 (by simp only[ne_eq,Option.some.injEq];omega) (by have h5:=row_ne_iter hrow2 hrg2;simp only[Value.ownBlock] at h5;exact h5)
   refine⟨⟨_,cnt2,ss++[x],hrg3,by simp;omega,by simp,by simpa using hown3,hC.step hlk hat,?_⟩,?_⟩
   ·exact((hnx.grown hg2 hnx.size (fun j hj=>by cases hj;exact hg1.size)).alloc (by have:=hnx.size;have:=hg2.size;omega) _).grown hg3 (by have:=hnx.size;have:=hg2.size;simp;omega) (fun j hj=>by cases hj;exact Nat.le_refl _)
   ·rw[hrg3.left_eq,hrg.left_eq];exact hlt
end Go.Proofs.Nb

namespace Gx
open Go Go.Proofs Go.RowKit
noncomputable section
variable {R:Type} (N:Nat)
def Ab (l:List Int):LA:=l.map fun n=>.int .i64 n
def TH:AV→Int
 | .int _ n=>n
 | _=>0
def Zb:AV→Bool
 | .int .i64 n=>decide (-9223372036854775808≤n)&&decide (n≤9223372036854775807)
 | _=>false
def JG (n:Int):List Int→List Int
 | []=>[n]
 | m::r=>if n≤m then n::m::r else m::JG n r
def Xn (l:List Int):List Int:=l.foldr JG []
def Tf (c:LA):LA:=Ab (Xn (c.map TH))
def Cs (_N:Nat) (b:Nat) (c:Int) (v:LA) (r0:Nat→LA→LA→O R):O R :=
 cond (Af c b) (RP (v.drop c.toNat) fun l=>cond (Nat.ble l.length 16777216&&l.all Zb) (r0 l.length v (Tf l)) none) none
def Ee:=(Bx (@Cs R)).1
theorem Cp:@Ee R=@Cs R:=(Bx _).2
def Dx (a:LA) (h:Ai) (k:KF R):O R :=
 match a,h with
 | [(.nd 100000 (.whole b)),(.int .i64 c)],[(100000,⟨false,false,true,false,2,v,true,none,0,0⟩)]=>Ee N b c v fun n v' l=>k (.own 300000 0 n) [(100000,⟨false,false,true,false,2,v',true,none,0,0⟩),(300000,(bQ 1 l))]
 | _,_=>none
def Ga:Tw:=⟨fun {R} a h k=>@Dx R N a h k,fun {R} a h k=>by
 unfold Dx
 split
 ·rename_i b c v
  rw[Cp,Cp];unfold Cs RP
  cases Af c b
  ·rfl
  ·cases (v.drop c.toNat).head? with
   | none=>rfl
   | some y =>
    simp only[cond_true,Option.bind_some]
    cases Pa y with
    | none=>rfl
    | some l=>simp only[Option.bind_some];cases (Nat.ble l.length 16777216&&l.all Zb)<;>rfl
 ·rfl⟩
def C9 (_N:Nat) (n:Nat) (i j:Int) (c:LA) (r0:Nat→LA→O R):O R :=
 cond (decide (0≤i)&&(decide (i≤j)&&(decide (j≤(n:Int))&&(Nat.ble 1 n&&(Nat.ble n 16777216&&(c.take n).all Zb))))) (r0 (n - (j - i).toNat) (c.take i.toNat++(c.take n).drop j.toNat)) none
def H0:=(Bx (@C9 R)).1
theorem De:@H0 R=@C9 R:=(Bx _).2
def Df (a:LA) (h:Ai) (k:KF R):O R :=
 match a,h with
 | [(.own 100000 0 n),(.int .i64 i),(.int .i64 j)],[(100000,⟨false,false,true,false,1,c,false,some (3,140737488355328),0,0⟩)]=>H0 N n i j c fun n' c'=>k (.own 300000 0 n') [(300000,⟨false,false,true,false,1,c',false,some (3,140737488355328),0,0⟩)]
 | _,_=>none
def Jc:Tw:=⟨fun {R} a h k=>@Df R N a h k,fun {R} a h k=>by
 unfold Df
 split
 ·rename_i n i j c
  rw[De,De];unfold C9
  cases (decide (0≤i)&&(decide (i≤j)&&(decide (j≤(n:Int))&&(Nat.ble 1 n&&(Nat.ble n 16777216&&(c.take n).all Zb)))))<;>rfl
 ·rfl⟩
end
theorem WL {x:AV} (h:Zb x=true):∃ n,x=.int .i64 n∧-9223372036854775808≤n∧n≤9223372036854775807:=by
 unfold Zb at h
 split at h
 ·simp at h;exact⟨_,rfl,h⟩
 ·cases h
theorem G':∀ {c:LA},c.all Zb=true→c=Ab (c.map TH)∧∀ n ∈ c.map TH,-9223372036854775808≤n∧n≤9223372036854775807
 | [],_=>⟨rfl,by simp⟩
 | x::r,h=>by
  simp only[List.all_cons,Bool.and_eq_true] at h
  obtain⟨n,rfl,h1⟩:=WL h.1
  obtain⟨h2,h3⟩:=G' h.2
  refine⟨by simp only[List.map_cons,Ab,TH];rw[show List.map (fun n=>AV.int IntKind.i64 n) (List.map TH r)=r from h2.symm],fun m hm=>?_⟩
  rw[List.map_cons] at hm
  rcases List.mem_cons.1 hm with rfl | hm
  ·exact h1
  ·exact h3 m hm
theorem P4 (l:List Int):(Ab l).map TH=l:=by
 unfold Ab;rw[List.map_map]
 exact List.map_id'' (fun x=>rfl) l
theorem FDone.of {J J':Bool→Nat→Prop} {β β':Au} {h H:Ai} {w w':World} (A:Step J β h w J' β' H w') (hl:∀ b x,Ad H b=some x→x.dead=false):FDone ⟨J,β,h,w⟩ J' β' H w' :=
 ⟨A.sim,A.os,A.tape,A.output,A.size,A.frame,A.wr,A.ext.jsub,A.jup,fun k=>A.ext.size 0 k 0 trivial,fun b x0 x h0 hx hd=>by
  obtain⟨x',⟨h1,h2⟩,h3⟩:=A.ext.blk b x0 h0
  change Ad H b=some x at hx
  rw[hx] at h1;simp at h1;subst h1
  rcases h3 with h3 | ⟨h3,h4,h5,h6⟩
  ·rw[hd] at h3;cases h3
  ·exact⟨⟨h4.o,h2⟩,h5,h6,h3⟩,hl⟩
theorem SimH.oneB {J:Bool→Nat→Prop} {β β1:Au} {h:Ai} {w w':World} (S:SimH J β h w) (hk:∀ o,Lk (J o) w w') (hs:w.heap.size≤w'.heap.size) {b:Nat} {x:Blk} (hm:x.mp=false) (M:QK J β1 [(b,x)] w' b x):SimH J β1 [(b,x)] w':=by
 refine⟨fun o k hj=>Nat.lt_of_lt_of_le (S.jlt o k hj) hs,S.jft,S.gl.to (fun _ h=>h) (hk false),fun c y hy _ _=>?_,fun c y hy _ hmy=>?_,fun c c' y y' j hy hy' _ _ _ _ _=>?_⟩
 ·obtain⟨rfl,rfl⟩:=B7 hy;exact M
 ·obtain⟨rfl,rfl⟩:=B7 hy;rw[hm] at hmy;cases hmy
 ·rw[(B7 hy).1,(B7 hy').1]
theorem UR {J:Bool→Nat→Prop} {β:Au} {h:Ai} {w w':World} (S:SimH J β h w) (B:Below w.heap.size w w') {d g:Nat} (hn:Ad h d=none) (hl:∀ b x,Ad h b=some x→x.dead=false) {sz:Nat} {c:LA} {cs:Array Value} {ty:TypeId}
  (hg:w.heap.size≤g) (hk:w'.heap[g]?=some (.cells cs ty (0,0))) (hlen:c.length≤cs.size) (hc:RepCs (J false) w' c (fun j=>cs[j]?) 0) :
  ∃ J' β',FDone ⟨J,β,h,w⟩ J' β' (Cf h d (bQ sz c)) w'∧β' d=some (g,0):=by
 have kJ:∀ o,Lk (J o) w w':=fun o k hj=>B.block k (S.jlt o k hj)
 have S1:SimH J (fun _=>some (g,0)) [(d,bQ sz c)] w':=by
  refine S.oneB kJ B.size rfl (.inr ⟨g,0,cs,ty,(0,0),rfl,hk,⟨.inl rfl,TyOk.none⟩,by show 0+c.length≤_;omega,⟨fun _=>RepCs.keep (fun _ h=>h) (fun _ _=>rfl) (fun j=>by rw[Nat.zero_add]) hc,fun hp=>by cases hp⟩,fun _ q hj=>?_,fun hp=>by cases hp⟩)
  have:=S.jlt q g hj;omega
 have A:=Step.merge (J1:=J) (H:=Cf h d (bQ sz c)) (D:=[d]) (ids:=[]) S S1 (fun b hb=>by rw[Aa,if_neg (by simpa using hb)])
  (fun b z hb hz _=>by
   simp at hb;subst hb
   rw[Aa,if_pos rfl] at hz;simp at hz;subst hz;exact⟨_,Fw,Bumped.rfl⟩)
  (fun b y hy=>by
   obtain⟨rfl,rfl⟩:=B7 hy
   exact⟨by simp,_,by rw[Aa,if_pos rfl],Bumped.rfl⟩)
  (fun b z hb _=>by simp at hb;subst hb;rw[hn];simp)
  (fun b z hb=>by simp at hb) (fun b hb=>by simp at hb) B.os B.tape B.output B.size (fun k hk' _=>B.block k hk')
  (fun k hm hk'=>by
   obtain⟨b,y,hy,_,_,ht⟩:=hm
   obtain⟨rfl,rfl⟩:=B7 hy
   obtain⟨o,ho⟩:=ht.ord rfl
   simp at ho;omega)
  (fun _ _ hj=>.inl hj) (fun k=>by
   by_cases hk':k<w.heap.size
   ·simp[Aj,B.block k hk']
   ·simp[Aj,Array.getElem?_eq_none (Nat.le_of_not_lt hk')])
 refine⟨_,_,FDone.of A.1 (fun b x hx=>?_),by simp⟩
 rw[Aa] at hx
 by_cases e:b=d
 ·rw[if_pos e] at hx;simp at hx;subst hx;rfl
 ·rw[if_neg e] at hx;exact hl b x hx
theorem PP {n x:Int}:∀ {l:List Int},x ∈ JG n l↔x=n∨x ∈ l
 | []=>by simp[JG]
 | m::r=>by
  rw[JG]
  split
  ·simp
  ·rw[List.mem_cons,PP,List.mem_cons]
   constructor
   ·rintro(h | h | h)
    ·exact .inr (.inl h)
    ·exact .inl h
    ·exact .inr (.inr h)
   ·rintro(h | h | h)
    ·exact .inr (.inl h)
    ·exact .inl h
    ·exact .inr (.inr h)
theorem KR (n:Int):∀ (l:List Int),(JG n l).Perm (n::l)
 | []=>.refl _
 | m::r=>by
  rw[JG]
  split
  ·exact .refl _
  ·exact((KR n r).cons m).trans (.swap n m r)
theorem Rz:∀ (l:List Int),(Xn l).Perm l
 | []=>.refl _
 | m::r=>(KR m _).trans ((Rz r).cons m)
theorem CM {n:Int}:∀ {l:List Int},l.Pairwise (·≤·)→(JG n l).Pairwise (·≤·)
 | [],_=>by simp[JG]
 | m::r,h=>by
  rw[List.pairwise_cons] at h
  rw[JG]
  split
  ·rename_i hle
   refine List.pairwise_cons.2 ⟨fun x hx=>?_,List.pairwise_cons.2 h⟩
   rcases List.mem_cons.1 hx with rfl | hx
   ·exact hle
   ·have:=h.1 x hx;omega
  ·rename_i hle
   refine List.pairwise_cons.2 ⟨fun x hx=>?_,CM h.2⟩
   rcases PP.1 hx with rfl | hx
   ·omega
   ·exact h.1 x hx
theorem R2:∀ (l:List Int),(Xn l).Pairwise (·≤·)
 | []=>by simp[Xn]
 | m::r=>CM (R2 r)
theorem DJ {ss l:List Int} (h:ss.Perm l):ss.mergeSort (fun x y=>decide (x≤y))=Xn l:=by
 have h1:(ss.mergeSort (fun x y=>decide (x≤y))).Perm (Xn l):=(List.mergeSort_perm _ _).trans (h.trans (Rz l).symm)
 have h2:=List.pairwise_mergeSort (le:=fun x y:Int=>decide (x≤y)) (fun a b c=>by simp;omega) (fun a b=>by simp;omega) ss
 refine List.Perm.eq_of_pairwise (le:=fun a b:Int=>a≤b) (fun a b _ _ h3 h4=>by omega) (h2.imp (by simp)) (R2 l) h1
open Go.WideElems (Fit rd rg rg_of rd_key) in
open Go.WideShapes in
theorem WM {w:World} {kk clk:Nat} {es:Array MapEntry} {li:List Int} (hk:w.heap[kk]?=some (.map es clk)) (hr:Xz (Ab li) es clk) (hw:∀ n ∈ li,-9223372036854775808≤n∧n≤9223372036854775807) (hl:li.length≤16777216) :
  ∃ D0:DataW Unit,w.ownsMap Try.prog 3 (plainElem Try.prog 4) kk es.size D0∧Go.Maps.size D0=li.length∧∀ x,Go.Maps.has D0 (.int .i64 x)=true↔x ∈ li:=by
 obtain⟨⟨l,h1,h2⟩,hst⟩:=hr
 have hll:l=li:=by
  have:=congrArg (List.map TH) h1
  rw[P4] at this
  rw[show(l.map fun n=>AV.int IntKind.i64 n)=Ab l from rfl,P4] at this
  exact this.symm
 subst hll
 have hent:∀ x ∈ es.toList,∃ n,n ∈ l∧x.key=.int .i64 n∧x.val=.bool true:=fun x hx=>Pl (c:=[]) h2 hx
 have hrd:∀ x ∈ es.toList,∃ n,n ∈ l∧x.key=.int .i64 n∧rd (H:=Unit) Try.prog 3 (plainElem Try.prog 4) x=some (.int .i64 n,.lit (.bool true)):=by
  intro x hx
  obtain⟨n,hn,hk1,hv⟩:=hent x hx
  have hwf:(Lit.int .i64 n).wf=true:=by
   have:=hw n hn
   simp[Lit.wf,IntKind.min,IntKind.max,IntKind.signed,IntKind.bits];omega
  refine⟨n,hn,hk1,?_⟩
  unfold rd
  rw[hk1,hv,Go.Maps.keyOf_int_mk Try.underlying3 hwf,plainElem_bool Try.underlying4]
  rfl
 have hF:Fit (H:=Unit) Try.prog 3 (plainElem Try.prog 4) es clk:=by
  have hsz:es.size=l.length:=by have:=congrArg List.length h2;simpa using this
  exact⟨by unfold maxLen;omega,hst,fun x hx=>by obtain⟨n,_,_,h⟩:=hrd x hx;exact⟨_,h⟩⟩
 refine⟨.map ((es.toList.map (rg Try.prog 3 (plainElem Try.prog 4))).foldr DataW.insert []),⟨es,clk,hk,hF,Nat.le_refl _,rfl⟩,?_,fun x=>?_⟩
 ·rw[Go.Maps.size_eq,(sorted_perm _).length_eq,List.length_map]
  have:=congrArg List.length h2
  simpa using this
 ·rw[Go.Maps.has_eq,List.any_eq_true]
  constructor
  ·rintro⟨p,hp,hs⟩
   obtain⟨e,he,rfl⟩:=List.mem_map.1 (mem_sorted.1 hp)
   obtain⟨n,hn,_,hq⟩:=hrd e he
   rw[rg_of hq] at hs
   simp[Lit.sameKey] at hs
   subst hs;exact hn
  ·intro hx
   obtain⟨e,he,hke⟩:=OB h2 hx
   obtain⟨n,hn,hk2,hq⟩:=hrd e he
   rw[hke] at hk2;simp at hk2;subst hk2
   exact⟨_,mem_sorted.2 (List.mem_map.2 ⟨e,he,rfl⟩),by rw[rg_of hq];simp[Lit.sameKey]⟩
theorem Ky (N:Nat):UN Try.prog 52 (Ga N):=by
 intro args h res h' hh0
 have hh:Dx N args h (fun v h'=>some (v,h'))=some (res,h'):=hh0
 unfold Dx at hh
 split at hh
 ·rename_i b c v
  rw[Cp,Cs] at hh
  obtain⟨h1,h2⟩:=uc hh
  unfold RP at h2
  obtain⟨y,h3,h4⟩:=ub h2
  obtain⟨l,h5,h6⟩:=ub h4
  obtain⟨h7,h8⟩:=uc h6
  simp only[Bool.and_eq_true] at h7
  have h71:=Nat.le_of_ble_eq_true h7.1
  obtain⟨h72,h73⟩:=G' h7.2
  simp at h8
  obtain⟨rfl,rfl⟩:=h8
  obtain⟨i1,i2⟩:=Fv h1
  intro J β w vs S hr
  obtain⟨u,cv,rfl,e1,e2⟩:=PK hr
  rw[Rep] at e2;subst e2
  have hb:Ad [(100000,(⟨false,false,true,false,2,v,true,none,0,0⟩:Blk))] 100000=some ⟨false,false,true,false,2,v,true,none,0,0⟩:=Fw
  obtain⟨k,o,hβ,hN,_,_,_,_⟩:=Ir S hb rfl rfl
  obtain⟨_,k',o',g1,_,g2,rfl⟩:=BO hb rfl e1
  rw[hβ] at g1;simp at g1;obtain⟨rfl,rfl⟩:=g1
  obtain⟨_,cs,ty,fr,hk,hfr,hcs,hdl,hall,huq⟩:=hN
  rw[List.head?_drop] at h3
  have g2:v.length=b:=g2
  have hcs:cs.size=v.length:=hcs
  have hdl:(dec o).length=v.length:=hdl
  have hlt:c.toNat<b:=by omega
  obtain⟨en,hen⟩:∃ e,(dec o)[c.toNat]?=some e:=⟨_,List.getElem?_eq_getElem (by omega)⟩
  obtain⟨cell,hc1,hv,hI⟩:=hall _ _ hen
  have hc1:v[c.toNat]?=some cell:=hc1
  rw[h3] at hc1;simp at hc1;subst hc1
  have hI:InnerIs (J false) w 0 en y:=hI
  have hv:cs[c.toNat]?=some (Sk 0 en):=hv
  match en,hen,hI,hv with
  | none,_,hI,_=>rcases hI with rfl | rfl<;>simp[Pa] at h5
  | some (false,_,_,_,_),_,hI,_=>simp[InnerIs] at hI;subst hI;simp[Pa] at h5
  | some (true,kk,a,n',cap),hen,hI,hv =>
   obtain⟨l1,es,clk,q1,hI⟩:=hI
   rcases hI with⟨rfl,rfl,q2⟩ | ⟨t,rfl,rfl,_⟩
   ·simp[Pa,Bo] at h5;subst h5
    rw[h72] at q2
    obtain⟨D0,w1,w2,w3⟩:=WM q1 q2 h73 (by simpa using h71)
    have hcell:w.cell? ⟨k,c.toNat,none⟩=some (.map (some kk)):=by rw[Dq hk];exact hv
    refine(Nb.walk k b kk es.size c D0 w i1 (by omega) hcell w1 (by rw[w2];simpa using h71)).mono ?_
    rintro e w' ⟨ss,rfl,s1,s2,s3,s4⟩
    have hnd:(l1.map TH).Nodup:=by
     obtain⟨⟨lj,j1,j2⟩,hst⟩:=q2
     have hjl:lj=l1.map TH:=by
      have:=congrArg (List.map TH) j1
      rw[P4] at this
      rw[show(lj.map fun n=>AV.int IntKind.i64 n)=Ab lj from rfl,P4] at this
      exact this.symm
     rw[←hjl]
     have h3':(es.toList.map (·.key)).Nodup:=hst.2.2
     have h4':es.toList.map (·.key)=lj.map fun n=>(.int .i64 n:Value):=by
      have:=congrArg (List.map Prod.fst) j2
      rw[List.map_map,List.map_map] at this
      exact this
     rw[h4'] at h3'
     exact List.Pairwise.of_map (fun n=>(.int .i64 n:Value)) (fun a b hab e=>hab (by rw[e])) h3'
    have hp:ss.Perm (l1.map TH):=(List.perm_ext_iff_of_nodup s1 hnd).2 (fun x=>by rw[s2 x,w3 x])
    have hlen:ss.length=l1.length:=by have:=hp.length_eq;simpa using this
    rw[DJ hp] at s3
    rcases s3.2 with⟨z,_⟩ | ⟨g,cap',cur,z,z1,z2,z3,z4,z5,z6⟩
    ·cases z
    ·simp at z;obtain⟨rfl,rfl⟩:=z
     have hsl:(Xn (l1.map TH)).length=ss.length:=by rw[(Rz _).length_eq,hp.length_eq]
     have hc:RepCs (J false) w' (Tf l1) (fun j=>cur[j]?) 0:=by
      rw[Ay]
      intro j x hj
      unfold Tf Ab at hj
      rw[List.getElem?_map] at hj
      cases hq:(Xn (l1.map TH))[j]? with
      | none=>rw[hq] at hj;simp at hj
      | some m =>
       rw[hq] at hj;simp at hj;subst hj
       have hjl:=(List.getElem?_eq_some_iff.1 hq).1
       refine⟨.int .i64 m,?_,by rw[RepC]⟩
       have:=congrArg (fun q=>q[j]?) z6
       rw[List.getElem?_take_of_lt (by omega),List.getElem?_map,hq,Array.getElem?_toList] at this
       simpa using this
     have hcl:(Tf l1).length≤cur.size:=by unfold Tf Ab;rw[List.length_map,hsl,z5];omega
     obtain⟨J',β',F,hb'⟩:=UR (d:=300000) (sz:=1) S s4 rfl (fun b x hx=>by obtain⟨rfl,rfl⟩:=B7 hx;rfl) z1 z2 hcl hc
     refine⟨_,J',β',rfl,F,?_⟩
     rw[Rep]
     refine⟨bQ 1 (Tf l1),_,_,⟨rfl,rfl⟩,by rw[hlen],by rw[←hlen];exact z3,.inr ⟨w.heap.size,0,rfl,.inr ⟨hb',?_,?_⟩⟩⟩
     ·rw[Ax z2,z5];show 0+0+Go.Maps.size D0*1≤_;omega
     ·show 0+l1.length*1≤(Tf l1).length
      unfold Tf Ab;rw[List.length_map,hsl];omega
   ·simp[Pa,Bo,Nat.beq] at h5
 ·simp at hh
theorem Ui (N:Nat):UN Try.prog 41 (Jc N):=by
 intro args h res h' hh0
 have hh:Df N args h (fun v h'=>some (v,h'))=some (res,h'):=hh0
 unfold Df at hh
 split at hh
 ·rename_i n i j c
  rw[De,C9] at hh
  obtain⟨h1,h2⟩:=uc hh
  simp only[Bool.and_eq_true,decide_eq_true_eq] at h1
  obtain⟨a1,a2,a3,a4,a5,a6⟩:=h1
  have a4:=Nat.le_of_ble_eq_true a4
  have a5:=Nat.le_of_ble_eq_true a5
  obtain⟨a7,a8⟩:=G' a6
  simp at h2
  obtain⟨rfl,rfl⟩:=h2
  intro J β w vs S hr
  rw[Reps] at hr
  obtain⟨u,us,rfl,e1,hr⟩:=hr
  obtain⟨iv',jv',rfl,e2,e3⟩:=PK hr
  simp only[Rep] at e2 e3;subst e2 e3
  have hb:Ad [(100000,(⟨false,false,true,false,1,c,false,some (3,140737488355328),0,0⟩:Blk))] 100000=some ⟨false,false,true,false,1,c,false,some (3,140737488355328),0,0⟩:=Fw
  rw[Rep] at e1
  obtain⟨x,A,cap,⟨hx,_⟩,rfl,hcap,e1⟩:=e1
  rw[hb] at hx;simp at hx;subst hx
  rcases e1 with e1 | ⟨k,o,rfl,e1⟩
  ·omega
  rcases e1 with e1 | ⟨hβ,g1,g2⟩
  ·cases e1
  rcases S.blk 100000 _ hb rfl rfl with⟨hz,_⟩ | ⟨k',o',cs,ty,fr,hβ',k1,k2,k3,k4,k5,_⟩
  ·rw[hβ] at hz;cases hz
  rw[hβ] at hβ';simp at hβ';obtain⟨rfl,rfl⟩:=hβ'
  obtain⟨hty,ho,hsz⟩:=k2.2 3 140737488355328 rfl
  subst ho
  have k3:0+c.length≤cs.size:=k3
  have g2:0+n*1≤c.length:=g2
  rw[Ax k1] at g1
  have g1:0+0+cap*1≤cs.size:=g1
  have k4':RepCs (J false) w c (fun j=>cs[0+j]?) 0:=k4.1 rfl
  generalize hzs:(c.take n).map TH=zs at *
  have hzl:zs.length=n:=by rw[←hzs];simp;omega
  have hcz:∀ (q:Nat) m,zs[q]?=some m→cs[0+q]?=some (.int .i64 m):=by
   intro q m hq
   have hql:=(List.getElem?_eq_some_iff.1 hq).1
   have h9:(c.take n)[q]?=some (.int .i64 m):=by rw[a7];unfold Ab;rw[List.getElem?_map,hq];rfl
   rw[List.getElem?_take_of_lt (by omega)] at h9
   obtain⟨v,hv,hvr⟩:=k4'.at h9
   rw[RepC] at hvr;subst hvr
   exact hv
  have hH:Go.Sort.Holds (Value.int .i64) w k 0 zs.toArray:=by
   intro q hq
   have hq':q<zs.length:=by simpa using hq
   refine⟨?_,?_⟩
   ·rw[Dq k1,hcz q zs[q] (by simp[hq'])]
    simp[hq']
   ·simp only[World.frozen?,k1]
    have:=k2.1.at (0+q) (by omega)
    cases fr;simp at this ⊢;omega
  have hcall:=Try.slices_Delete_int k 0 cap i.toNat j.toNat zs w hH (by omega) (by omega) (by omega) (by omega)
  rw[hzl,Int.toNat_of_nonneg a1,Int.toNat_of_nonneg (by omega)] at hcall
  refine hcall.mono ?_
  rintro e w' ⟨rfl,q,rfl⟩
  generalize hnew:zs.take i.toNat++zs.drop j.toNat++List.replicate (j.toNat - i.toNat) 0=nw
  have hnl:nw.length=n:=by rw[←hnew];simp;omega
  have O:OnlyBlk w (Go.Sort.putRow (Value.int .i64) (Go.Sort.ahead w q) k 0 nw.toArray) k cs (Go.Sort.putCells (Value.int .i64) 0 nw.toArray cs) ty fr:=by
   refine⟨k1,?_,by simp[Go.Sort.putCells],fun q2 hq2=>?_,?_,rfl,rfl,rfl⟩
   ·simp[Go.Sort.putRow,Go.Sort.mapBlock,Go.Sort.ahead,Array.getElem?_modify,k1,Go.Sort.onCells]
   ·simp[Go.Sort.putRow,Go.Sort.mapBlock,Go.Sort.ahead,Array.getElem?_modify,Ne.symm hq2]
   ·simp[Go.Sort.putRow,Go.Sort.mapBlock,Go.Sort.ahead]
  have hcs':∀ (q2:Nat) m,nw[q2]?=some m→(Go.Sort.putCells (Value.int .i64) 0 nw.toArray cs)[q2]?=some (.int .i64 m):=by
   intro q2 m hm
   have hml:=(List.getElem?_eq_some_iff.1 hm).1
   have:q2<cs.size:=by omega
   simp[Go.Sort.putCells,this,hml]
   rw[List.getElem?_eq_getElem hml] at hm
   simpa using hm
  have unJ:=S.unJ hb rfl rfl hβ
  have kJ:∀ g,Lk (J g) w (Go.Sort.putRow (Value.int .i64) (Go.Sort.ahead w q) k 0 nw.toArray):=fun g q2 hj=>O.other q2 (fun e=>by subst e;exact unJ g hj)
  have hcl:(c.take i.toNat++(c.take n).drop j.toNat)=Ab (zs.take i.toNat++zs.drop j.toNat):=by
   have h8:c.take i.toNat=(c.take n).take i.toNat:=by rw[List.take_take,Nat.min_eq_left (by omega)]
   rw[h8,a7];unfold Ab;simp
  have hrc:RepCs (J false) (Go.Sort.putRow (Value.int .i64) (Go.Sort.ahead w q) k 0 nw.toArray) (c.take i.toNat++(c.take n).drop j.toNat) (fun q2=>(Go.Sort.putCells (Value.int .i64) 0 nw.toArray cs)[0+q2]?) 0:=by
   rw[hcl,Ay]
   intro q2 x hx
   unfold Ab at hx
   rw[List.getElem?_map] at hx
   cases hm:(zs.take i.toNat++zs.drop j.toNat)[q2]? with
   | none=>rw[hm] at hx;simp at hx
   | some m =>
    rw[hm] at hx;simp at hx;subst hx
    refine⟨.int .i64 m,?_,by rw[RepC]⟩
    simp only[Nat.zero_add]
    refine hcs' q2 m ?_
    rw[←hnew,List.getElem?_append_left (List.getElem?_eq_some_iff.1 hm).1];exact hm
  have hlen:(c.take i.toNat++(c.take n).drop j.toNat).length=n - (j - i).toNat:=by
   rw[hcl];unfold Ab;rw[List.length_map,List.length_append,List.length_take,List.length_drop];omega
  have S2:SimH J (fun _=>some (k,0)) [(300000,⟨false,false,true,false,1,c.take i.toNat++(c.take n).drop j.toNat,false,some (3,140737488355328),0,0⟩)] (Go.Sort.putRow (Value.int .i64) (Go.Sort.ahead w q) k 0 nw.toArray):=by
   refine S.oneB kJ (by rw[O.size];exact Nat.le_refl _) rfl (.inr ⟨k,0,_,ty,fr,rfl,O.new,⟨by rw[O.sz];exact k2.1,fun t m ht=>?_⟩,?_,⟨fun _=>hrc,fun hp=>by cases hp⟩,fun _ g hj=>unJ g hj,fun hp=>by cases hp⟩)
   ·simp at ht;obtain⟨rfl,rfl⟩:=ht
    rw[O.sz];exact⟨hty,rfl,hsz⟩
   ·show 0+(c.take i.toNat++(c.take n).drop j.toNat).length≤_
    rw[hlen,O.sz];omega
  have hmut:NH β [(100000,(⟨false,false,true,false,1,c,false,some (3,140737488355328),0,0⟩:Blk))] k:=⟨100000,_,hb,rfl,rfl,Terr.at hβ⟩
  refine⟨_,J,fun _=>some (k,0),rfl,⟨S2,O.os,O.tape,O.output,by rw[O.size];exact Nat.le_refl _,fun q2 _ hm=>O.other q2 (fun e=>by subst e;exact hm hmut),fun q2 hm _=>?_,fun _ _ h=>h,fun _ _ h=>.inl h,fun q2=>?_,fun b x0 x h0 hx _=>?_,fun b x hx=>by obtain⟨rfl,rfl⟩:=B7 hx;rfl⟩,?_⟩
  ·obtain⟨b,y,hy,_,_,ht⟩:=hm
   obtain⟨rfl,rfl⟩:=B7 hy
   obtain⟨o2,ho2⟩:=ht.ord rfl
   simp at ho2;obtain⟨rfl,_⟩:=ho2;exact hmut
  ·by_cases e:q2=k
   ·subst e;show Aj w q2≤_;rw[Ax O.old,Ax O.new,O.sz];exact Nat.le_refl _
   ·show Aj w q2≤_;simp only[Aj,O.other q2 e];exact Nat.le_refl _
  ·obtain⟨rfl,rfl⟩:=B7 h0
   obtain⟨h9,_⟩:=B7 hx
   omega
  ·rw[Rep]
   refine⟨⟨false,false,true,false,1,c.take i.toNat++(c.take n).drop j.toNat,false,some (3,140737488355328),0,0⟩,_,cap,⟨Fw,rfl⟩,by rw[show n - (j - i).toNat=n - (j.toNat - i.toNat) by omega],by omega,.inr ⟨k,0,rfl,.inr ⟨rfl,?_,?_⟩⟩⟩
   ·rw[Ax O.new,O.sz];exact g1
   ·show 0+(n - (j - i).toNat)*1≤(c.take i.toNat++(c.take n).drop j.toNat).length
    rw[hlen];omega
 ·simp at hh
end Gx

namespace Gx
open Go Go.Proofs
open IntKind (wrap)
set_option maxRecDepth 100000
noncomputable section
variable {R:Type} (N:Nat)
def Fz (N:Nat) (k0:Int→Int→Int→LA→O R) (r0:Nat→Int→LA→LA→O R) (b:Nat) (c:Int) (d:Nat) (e g:Int) (f:LA) (k1:Int→Int→Nat→Int→Int→LA→O R) (q r:Int) (s:Nat) (t p:Int) (m:LA):O R :=
 (cond (decide (p<t)) (cond (Af p s) (Ko .i64 (f.drop (0+((p.toNat)*1))) fun u=>(cond (Af e b) (RP (m.drop (e.toNat)) fun aa=>(cond (!(Ww aa u)) (cond (Af e b) (cond (Af u b) (RP (m.drop (e.toNat)) fun w=>(cond (Nat.beq (e.toNat) (e.toNat)) (bJ ((m.set (e.toNat) (Bo (Q9 w u) 1 0)).drop (e.toNat)) fun x=>(RP (((m.set (e.toNat) (Bo (Q9 w u) 1 0)).set (e.toNat) (Bo x 0 0)).drop (u.toNat)) fun y=>(cond (Nat.beq (u.toNat) (u.toNat)) (bJ ((((m.set (e.toNat) (Bo (Q9 w u) 1 0)).set (e.toNat) (Bo x 0 0)).set (u.toNat) (Bo (Q9 y e) 1 0)).drop (u.toNat)) fun ab=>(k1 (wrap .i64 (q+1)) r s t (wrap .i64 (p+1)) ((((m.set (e.toNat) (Bo (Q9 w u) 1 0)).set (e.toNat) (Bo x 0 0)).set (u.toNat) (Bo (Q9 y e) 1 0)).set (u.toNat) (Bo ab 0 0)))) none))) none)) none) none) (k1 q r s t (wrap .i64 (p+1)) m))) none)) none) (k0 q g (wrap .i64 (r+1)) m))
def Ca (k0:Int→Int→Int→LA→O R) (r0:Nat→Int→LA→LA→O R) (b:Nat) (c:Int) (d:Nat) (e g:Int) (f:LA):Nat→Int→Int→Nat→Int→Int→LA→O R
 | 0,_,_,_,_,_,_=>none
 | n+1,q,r,s,t,p,m=>(Fz N k0 r0 b c d e g f (Ca k0 r0 b c d e g f n) q r s t p m)
def F0 (N:Nat) (r0:Nat→Int→LA→LA→O R) (b:Nat) (c:Int) (d:Nat) (f:LA) (k0:Int→Int→Int→LA→O R) (q1:Int→Int→Int→Nat→Int→Int→LA→O R) (o g i:Int) (l:LA):O R :=
 (cond (decide (i<g)) (cond (Af i d) (Ko .i64 (f.drop (0+((i.toNat)*1))) fun e=>(cond (Af e b) (RP (l.drop (e.toNat)) fun z=>(cond (Af c b) (RP ((l.set (e.toNat) (Bo (EW z c) 0 0)).drop (c.toNat)) fun ac=>(cond ((decide ((0:Int)≤(0:Int)))&&((decide (0≤i))&&((decide (i≤((d:Nat):Int)))&&(decide (((d:Nat):Int)≤((d:Nat):Int)))))) (q1 e o i (i.toNat) (((i.toNat):Nat):Int) 0 ((l.set (e.toNat) (Bo (EW z c) 0 0)).set (c.toNat) (Bo (EW ac e) 0 0))) none)) none)) none)) none) (r0 d o l f))
def Bc (r0:Nat→Int→LA→LA→O R) (b:Nat) (c:Int) (d:Nat) (f:LA):Nat→Int→Int→Int→LA→O R
 | 0,_,_,_,_=>none
 | n+1,o,g,i,l=>(F0 N r0 b c d f (Bc r0 b c d f n) (fun e q r s t p m=>(Ca N (Bc r0 b c d f n) r0 b c d e g f N q r s t p m)) o g i l)
def Fb (r0:Nat→Int→LA→LA→O R) (q0:Nat→LA→Int→Int→Int→LA→O R) (b:Nat) (c:Int) (v:LA):O R :=
 (Ee N b c v (fun d ad f=>(q0 d f 0 ((d:Nat):Int) 0 ad)))
def Bm:=(Bx (fun (N b:Nat) (c:Int) (v:LA) (r0:Nat→Int→LA→LA→O R)=>(Fb N r0 (fun d f o g i l=>(Bc N r0 b c d f N o g i l)) b c v))).1
theorem Jd (b c v r0):(@Bm R N b c v r0)=(Fb N r0 (fun d f o g i l=>(Bc N r0 b c d f N o g i l)) b c v):=by rw[Bm,(Bx _).2]
def Kz:Hints:={ H:=(hS hL (hS hL (hS (hS hL (hS (hP [0,1,4,5,13,14,15] (hS hL (hS hL (hS (hS (hS hL (hS hL (hS hL (hS hL (hS (hP [0,1,4,5,7,13,14,15,32,33,34] hL) hL))))) hL) hL)))) hL)) hL))),nils:=[(4,1)],modes:=[(2,1),(0,0)] }
def Ll:MK:=[(52,Ga N)]
def K0 (F:KF R):=GP Try.f33 Kz (Ll N) [100000] N F
def Bd (F:KF R):Nat→Int→LA→LA→O R:=(fun ae af ag ah=>F (.tup [(.own 300000 0 ae),(iv af)]) [(100000,⟨false,false,true,false,2,ag,true,none,0,0⟩),(300000,(bQ 1 ah))])
def Vq (b:Nat) (c:Int) (d:Nat) (e g:Int) (f:LA) (q r:Int) (s:Nat) (t p:Int) (m:LA):St:=⟨[(0,(.nd 100000 (.whole b))),(1,(iv c)),(4,(.own 300000 0 d)),(5,(iv q)),(7,(iv e)),(13,(.own 300000 0 d)),(14,(iv g)),(15,(iv r)),(32,(.own 300000 0 s)),(33,(iv t)),(34,(iv p))],[(100000,⟨false,false,true,false,2,m,true,none,0,0⟩),(300000,(bQ 1 f))]⟩
def Vr (F:KF R) (Q0:St→O R):=K0 N F [1,1,0,1,0,0,1,1,0,0,1,1,1,1,0] [Q0]
def Gb (b:Nat) (c:Int) (d:Nat) (f:LA) (o g i:Int) (l:LA):St:=⟨[(0,(.nd 100000 (.whole b))),(1,(iv c)),(4,(.own 300000 0 d)),(5,(iv o)),(13,(.own 300000 0 d)),(14,(iv g)),(15,(iv i))],[(100000,⟨false,false,true,false,2,l,true,none,0,0⟩),(300000,(bQ 1 f))]⟩
def K1 (F:KF R):=K0 N F [1,1,0,1,0] []
theorem Ic (Q0:St→O R) (F:KF R) (b:Nat) (c:Int) (d:Nat) (e g:Int) (f:LA):∀ (n:Nat) (q r:Int) (s:Nat) (t p:Int) (m:LA),Ar (Vr N F Q0) n (Vq b c d e g f q r s t p m)=(Ca N (fun o g i l=>Q0 (Gb b c d f o g i l)) (Bd F) b c d e g f n q r s t p m)
 | 0,_,_,_,_,_,_=>by kernel_rfl
 | n+1,q,r,s,t,p,m=>Eq.trans (by kernel_rfl) (He (Fz N (fun o g i l=>Q0 (Gb b c d f o g i l)) (Bd F) b c d e g f · q r s t p m) (funext fun q=>funext fun r=>funext fun s=>funext fun t=>funext fun p=>funext fun m=>(Ic Q0 F b c d e g f n q r s t p m)):_)
theorem If (F:KF R) (b:Nat) (c:Int) (d:Nat) (f:LA):∀ (n:Nat) (o g i:Int) (l:LA),Ar (K1 N F) n (Gb b c d f o g i l)=(Bc N (Bd F) b c d f n o g i l)
 | 0,_,_,_,_=>by kernel_rfl
 | n+1,o,g,i,l=>have e0:=(funext fun o=>funext fun g=>funext fun i=>funext fun l=>(If F b c d f n o g i l))
  Eq.trans (by kernel_rfl) (PH (F0 N (Bd F) b c d f · · o g i l) e0 (funext fun e=>funext fun q=>funext fun r=>funext fun s=>funext fun t=>funext fun p=>funext fun m=>(Ao ..).trans ((Ic N (Ar (K1 N F) n) F b c d e g f N q r s t p m).trans (He (Ca N · (Bd F) b c d e g f N q r s t p m) e0))):_)
theorem K2 (b:Nat) (c:Int) (v:LA) (F:KF R):Xf (Ll N) Kz N 33 [(.nd 100000 (.whole b)),(iv c)] [(100000,⟨false,false,true,false,2,v,true,none,0,0⟩)] F=(Bm N b c v (Bd F)):=by
 rw[Jd]
 exact Eq.trans (by kernel_rfl) (He (Fb N (Bd F) · b c v) (funext fun d=>funext fun f=>funext fun o=>funext fun g=>funext fun i=>funext fun l=>(Ao ..).trans (If N F b c d f N o g i l)):_)
def Je (a:LA) (h:Ai) (k:KF R):O R :=
 match a,h with
 | [(.nd 100000 (.whole b)),(.int .i64 c)],[(100000,⟨false,false,true,false,2,v,true,none,0,0⟩)]=>(Bm N b c v (Bd k))
 | _,_=>none
theorem K3:C8 N 33 @Je:=by
 intro R Q a h k j;unfold Je;split;exact Hi (K2 ..) (K2 ..) ⟨Ky N,trivial⟩;exact Hj
def Ef:=Gz (K3 N)
def Eg:=Xg (K3 N)
def Jz (k1:Nat→Nat→LA→LA→LA→O R) (r0:Nat→Int→LA→O R) (b:Nat) (k2:Nat→Nat→Int→Nat→Int→Int→LA→LA→LA→O R) (p l:Nat) (f:Int) (w:Nat) (x m:Int) (q o y:LA):O R :=
 (cond (decide (m<x)) (cond (Af m w) (Ko .i64 (o.drop (0+((m.toNat)*1))) fun ab=>(cond (Af ab b) (RP (q.drop (ab.toNat)) fun ae=>(cond (Af f p) (Ko .i64 (o.drop (0+((f.toNat)*1))) fun ac=>(cond (Af ac b) (RP (q.drop (ac.toNat)) fun af=>(cond (decide (((ae.length:Nat):Int)<((af.length:Nat):Int))) (k2 p l m w x (wrap .i64 (m+1)) q o y) (k2 p l f w x (wrap .i64 (m+1)) q o y))) none)) none)) none)) none) (cond (Af f p) (Ko .i64 (o.drop (0+((f.toNat)*1))) fun ad=>(H0 N p f (wrap .i64 (f+1)) o (fun ag ah=>(Bm N b ad q (fun an ao ai ap=>(cond ((Nat.ble (l+1) 140737488355328)&&(Nat.ble ((l+1)*8) 140737488355328)) (k1 ag (l+1) ai ah ((y.take (l*1))++[(.int .i64 ad)])) none)))))) none))
def D5 (k1:Nat→Nat→LA→LA→LA→O R) (r0:Nat→Int→LA→O R) (b:Nat):Nat→Nat→Nat→Int→Nat→Int→Int→LA→LA→LA→O R
 | 0,_,_,_,_,_,_,_,_,_=>none
 | n+1,p,l,f,w,x,m,q,o,y=>(Jz N k1 r0 b (D5 k1 r0 b n) p l f w x m q o y)
def J3 (N:Nat) (r0:Nat→Int→LA→O R) (b:Nat) (k1:Nat→Nat→LA→LA→LA→O R) (q2:Nat→Nat→Int→Nat→Int→Int→LA→LA→LA→O R) (g r:Nat) (t u s:LA):O R :=
 (cond (decide (((g:Nat):Int)>0)) (q2 g r 0 g ((g:Nat):Int) 0 t u s) (r0 r 0 s))
def D6 (r0:Nat→Int→LA→O R) (b:Nat):Nat→Nat→Nat→LA→LA→LA→O R
 | 0,_,_,_,_,_=>none
 | n+1,g,r,t,u,s=>(J3 N r0 b (D6 r0 b n) (fun p l f w x m q o y=>(D5 N (D6 r0 b n) r0 b N p l f w x m q o y)) g r t u s)
def J4 (N:Nat) (r0:Nat→Int→LA→O R) (c:LA) (b:Nat) (e d:Bool) (z:LA) (k0:Int→Int→LA→O R) (q1:Nat→Nat→LA→LA→LA→O R) (aa i:Int) (v:LA):O R :=
 (cond (decide (i<aa)) (cond (Af i b) (cond ((Nat.beq 1 1)&&((Nat.ble ((0+((i.toNat)*1))+1) (v.length))&&(!false))) (k0 aa (wrap .i64 (i+1)) (v.set (0+((i.toNat)*1)) (.int .i64 i))) none) none) (cond ((decide ((0:Int)≤(0:Int)))&&((decide (0≤((b:Nat):Int)))&&((decide (((b:Nat):Int)≤140737488355328))&&(decide ((((b:Nat):Int)*((8:Nat):Int))≤140737488355328))))) (q1 b 0 z v []) none))
def D7 (r0:Nat→Int→LA→O R) (c:LA) (b:Nat) (e d:Bool) (z:LA):Nat→Int→Int→LA→O R
 | 0,_,_,_=>none
 | n+1,aa,i,v=>(J4 N r0 c b e d z (D7 r0 c b e d z n) (fun g r t u s=>(D6 N r0 b N g r t u s)) aa i v)
def Kt (r0:Nat→Int→LA→O R) (q0:LA→Int→Int→LA→O R) (c:LA) (b:Nat) (e d:Bool):O R :=
 (Iy N c b false d (fun aj=>(cond (!aj) (r0 0 1 []) (Fa N c b false d (fun z=>(cond ((decide (0≤((b:Nat):Int)))&&((decide (((b:Nat):Int)≤((b:Nat):Int)))&&((decide (((b:Nat):Int)≤140737488355328))&&((decide ((((b:Nat):Int)*((8:Nat):Int))≤140737488355328))&&(Nat.beq 1 1))))) (q0 z ((b:Nat):Int) 0 (List.replicate b (.int .i64 0))) none))))))
def Fc:=(Bx (fun (N:Nat) (c:LA) (b:Nat) (e d:Bool) (r0:Nat→Int→LA→O R)=>(Kt N r0 (fun z aa i v=>(D7 N r0 c b e d z N aa i v)) c b e d))).1
theorem P5 (c b e d r0):(@Fc R N c b e d r0)=(Kt N r0 (fun z aa i v=>(D7 N r0 c b e d z N aa i v)) c b e d):=by rw[Fc,(Bx _).2]
def Tg:Hints:={ H:=(hS hL (hS hL (hS hL (hS hL (hS (hS hL (hS (hP [0,4,5,21,22] hL) hL)) (hS hL (hS (hS (hP [4,5,7] (hS hL (hS (hS hL (hS (hS hL (hS (hP [4,5,7,8,36,37,38] hL) hL)) hL)) hL))) hL) hL))))))),nils:=[(2,1)],modes:=[(2,1),(0,0)],cob:=[3000019] }
def Vs:MK:=[(30,Oa N),(32,Kr N),(41,Jc N),(33,Ef N)]
def Ld (F:KF R):=GP Try.f21 Tg (Vs N) [] N F
def Bw (F:KF R):Nat→Int→LA→O R:=(fun ak al am=>F (.tup [(.own 300000 0 ak),(iv al)]) (hq [(bQ 1 am)]))
def DK (b p l:Nat) (f:Int) (w:Nat) (x m:Int) (q o y:LA):St:=⟨[(4,(.nd 300000 (.whole b))),(5,(.own 300001 0 p)),(7,(.own 300002 0 l)),(8,(iv f)),(36,(.own 300001 0 w)),(37,(iv x)),(38,(iv m))],(hq [⟨false,false,true,false,2,q,true,none,0,0⟩,⟨false,false,true,false,1,o,false,(some (3,140737488355328)),0,0⟩,(bQ 1 y)])⟩
def DL (F:KF R) (Q1:St→O R):=Ld N F [1,1,1,1,1,1,0,0,0,1,0,1,0,1,0] [Q1]
def Le (b g r:Nat) (t u s:LA):St:=⟨[(4,(.nd 300000 (.whole b))),(5,(.own 300001 0 g)),(7,(.own 300002 0 r))],(hq [⟨false,false,true,false,2,t,true,none,0,0⟩,⟨false,false,true,false,1,u,false,(some (3,140737488355328)),0,0⟩,(bQ 1 s)])⟩
def Th (F:KF R):=Ld N F [1,1,1,1,1,1,0,0] []
def DM (c:LA) (b:Nat) (e d:Bool) (z:LA) (aa i:Int) (v:LA):St:=⟨[(0,(.imm c b 1 e d)),(4,(.nd 300000 (.whole b))),(5,(.own 300001 0 b)),(21,(iv aa)),(22,(iv i))],(hq [⟨false,false,true,false,2,z,true,none,0,0⟩,⟨false,false,true,false,1,v,false,(some (3,140737488355328)),0,0⟩])⟩
def DN (F:KF R):=Ld N F [1,1,1,1,0,1,0] []
theorem M2 (Q1:St→O R) (F:KF R) (b:Nat):∀ (n:Nat) (p l:Nat) (f:Int) (w:Nat) (x m:Int) (q o y:LA),Ar (DL N F Q1) n (DK b p l f w x m q o y)=(D5 N (fun g r t u s=>Q1 (Le b g r t u s)) (Bw F) b n p l f w x m q o y)
 | 0,_,_,_,_,_,_,_,_,_=>by kernel_rfl
 | n+1,p,l,f,w,x,m,q,o,y=>Eq.trans (by kernel_rfl) (He (Jz N (fun g r t u s=>Q1 (Le b g r t u s)) (Bw F) b · p l f w x m q o y) (funext fun p=>funext fun l=>funext fun f=>funext fun w=>funext fun x=>funext fun m=>funext fun q=>funext fun o=>funext fun y=>(M2 Q1 F b n p l f w x m q o y)):_)
theorem M3 (F:KF R) (b:Nat):∀ (n:Nat) (g r:Nat) (t u s:LA),Ar (Th N F) n (Le b g r t u s)=(D6 N (Bw F) b n g r t u s)
 | 0,_,_,_,_,_=>by kernel_rfl
 | n+1,g,r,t,u,s=>have e0:=(funext fun g=>funext fun r=>funext fun t=>funext fun u=>funext fun s=>(M3 F b n g r t u s))
  Eq.trans (by kernel_rfl) (PH (J3 N (Bw F) b · · g r t u s) e0 (funext fun p=>funext fun l=>funext fun f=>funext fun w=>funext fun x=>funext fun m=>funext fun q=>funext fun o=>funext fun y=>(Ao ..).trans ((M2 N (Ar (Th N F) n) F b N p l f w x m q o y).trans (He (D5 N · (Bw F) b N p l f w x m q o y) e0))):_)
theorem M4 (F:KF R) (c:LA) (b:Nat) (e d:Bool) (z:LA):∀ (n:Nat) (aa i:Int) (v:LA),Ar (DN N F) n (DM c b e d z aa i v)=(D7 N (Bw F) c b e d z n aa i v)
 | 0,_,_,_=>by kernel_rfl
 | n+1,aa,i,v=>Eq.trans (by kernel_rfl) (PH (J4 N (Bw F) c b e d z · · aa i v) (funext fun aa=>funext fun i=>funext fun v=>(M4 F c b e d z n aa i v)) (funext fun g=>funext fun r=>funext fun t=>funext fun u=>funext fun s=>(Ao ..).trans (M3 N F b N g r t u s)):_)
theorem Ti (c:LA) (b:Nat) (e d:Bool) (F:KF R):Xf (Vs N) Tg N 21 [(.imm c b 1 e d)] [] F=(Fc N c b e d (Bw F)):=by
 rw[P5]
 exact Eq.trans (by kernel_rfl) (He (Kt N (Bw F) · c b e d) (funext fun z=>funext fun aa=>funext fun i=>funext fun v=>(Ao ..).trans (M4 N F c b e d z N aa i v)):_)
def P6 (a:LA) (h:Ai) (k:KF R):O R :=
 match a,h with
 | [(.imm c b 1 e d)],[]=>(Fc N c b e d (Bw k))
 | _,_=>none
theorem Tj:C8 N 21 @P6:=by
 intro R Q a h k j;unfold P6;split;exact Hi (Ti ..) (Ti ..) ⟨Ob N,Ks N,Ui N,Eg N,trivial⟩;exact Hj
def Tk:=Gz (Tj N)
def Tl:=Xg (Tj N)
def J5 (N:Nat) (r0:Nat→Bool→LA→O R) (b:Int) (g:Nat) (d:LA) (c:Nat) (e f:Bool) (k1:Int→Int→LA→O R) (q l:Int) (o:LA):O R :=
 (cond (decide (l<q)) (cond (Af l c) (Ko .i64 (d.drop ((l.toNat)*1)) fun r=>(cond ((decide (r<0))==false) (cond ((cond false true (decide (r≥b)))==false) (cond (Af r g) (Ko .i64 (o.drop (0+((r.toNat)*1))) fun s=>(cond (cond false true (decide (s≥0))) (r0 0 false []) (cond (Af r g) (cond ((Nat.beq 1 1)&&((Nat.ble ((0+((r.toNat)*1))+1) (o.length))&&(!false))) (k1 q (wrap .i64 (l+1)) (o.set (0+((r.toNat)*1)) (.int .i64 l))) none) none))) none) (r0 0 false [])) (r0 0 false []))) none) (r0 g true o))
def Fo (r0:Nat→Bool→LA→O R) (b:Int) (g:Nat) (d:LA) (c:Nat) (e f:Bool):Nat→Int→Int→LA→O R
 | 0,_,_,_=>none
 | n+1,q,l,o=>(J5 N r0 b g d c e f (Fo r0 b g d c e f n) q l o)
def J6 (N:Nat) (r0:Nat→Bool→LA→O R) (d:LA) (c:Nat) (e f:Bool) (b:Int) (k0:Nat→Int→Int→LA→O R) (q1:Int→Int→LA→O R) (g:Nat) (p i:Int) (m:LA):O R :=
 (cond (decide (i<p)) (cond (Af i g) (cond ((Nat.beq 1 1)&&((Nat.ble ((0+((i.toNat)*1))+1) (m.length))&&(!false))) (k0 g p (wrap .i64 (i+1)) (m.set (0+((i.toNat)*1)) (.int .i64 (-1)))) none) none) (q1 ((c:Nat):Int) 0 m))
def D8 (r0:Nat→Bool→LA→O R) (d:LA) (c:Nat) (e f:Bool) (b:Int):Nat→Nat→Int→Int→LA→O R
 | 0,_,_,_,_=>none
 | n+1,g,p,i,m=>(J6 N r0 d c e f b (D8 r0 d c e f b n) (fun q l o=>(Fo N r0 b g d c e f N q l o)) g p i m)
def Ku (N:Nat) (r0:Nat→Bool→LA→O R) (q0:Nat→Int→Int→LA→O R) (d:LA) (c:Nat) (e f:Bool) (b:Int):O R :=
 (cond (((c:Nat):Int) != b) (r0 0 false []) (cond ((decide (0≤b))&&((decide (b≤b))&&((decide (b≤140737488355328))&&(decide ((b*((8:Nat):Int))≤140737488355328))))) (q0 (b.toNat) (((b.toNat):Nat):Int) 0 (List.replicate (b.toNat) (.int .i64 0))) none))
def Fd:=(Bx (fun (N:Nat) (d:LA) (c:Nat) (e f:Bool) (b:Int) (r0:Nat→Bool→LA→O R)=>(Ku N r0 (fun g p i m=>(D8 N r0 d c e f b N g p i m)) d c e f b))).1
theorem P7 (d c e f b r0):(@Fd R N d c e f b r0)=(Ku N r0 (fun g p i m=>(D8 N r0 d c e f b N g p i m)) d c e f b):=by rw[Fd,(Bx _).2]
def Tm:Hints:={ H:=(hS hL (hS hL (hS hL (hS (hS hL (hS (hP [0,1,6,17,18] hL) hL)) (hS (hS hL (hS (hP [1,6,25,26,27] hL) hL)) hL))))),nils:=[(4,1)],modes:=[(2,1),(0,0)] }
def Tn (F:KF R):=GP Try.f31 Tm [] [] N F
def Cz (F:KF R):Nat→Bool→LA→O R:=(fun t u v=>F (.tup [(.own 300000 0 t),(.bool u)]) (hq [(bQ 1 v)]))
def DO (b:Int) (g:Nat) (d:LA) (c:Nat) (e f:Bool) (q l:Int) (o:LA):St:=⟨[(1,(iv b)),(6,(.own 300000 0 g)),(25,(.imm d c 1 e f)),(26,(iv q)),(27,(iv l))],(hq [(bQ 1 o)])⟩
def DP (F:KF R):=Tn N F [1,1,1,1,0,1,0] []
def DQ (d:LA) (c:Nat) (e f:Bool) (b:Int) (g:Nat) (p i:Int) (m:LA):St:=⟨[(0,(.imm d c 1 e f)),(1,(iv b)),(6,(.own 300000 0 g)),(17,(iv p)),(18,(iv i))],(hq [(bQ 1 m)])⟩
def DR (F:KF R):=Tn N F [1,1,1,0,1,0] []
theorem M5 (F:KF R) (b:Int) (g:Nat) (d:LA) (c:Nat) (e f:Bool):∀ (n:Nat) (q l:Int) (o:LA),Ar (DP N F) n (DO b g d c e f q l o)=(Fo N (Cz F) b g d c e f n q l o)
 | 0,_,_,_=>by kernel_rfl
 | n+1,q,l,o=>Eq.trans (by kernel_rfl) (He (J5 N (Cz F) b g d c e f · q l o) (funext fun q=>funext fun l=>funext fun o=>(M5 F b g d c e f n q l o)):_)
theorem M6 (F:KF R) (d:LA) (c:Nat) (e f:Bool) (b:Int):∀ (n g:Nat) (p i:Int) (m:LA),Ar (DR N F) n (DQ d c e f b g p i m)=(D8 N (Cz F) d c e f b n g p i m)
 | 0,_,_,_,_=>by kernel_rfl
 | n+1,g,p,i,m=>Eq.trans (by kernel_rfl) (PH (J6 N (Cz F) d c e f b · · g p i m) (funext fun g=>funext fun p=>funext fun i=>funext fun m=>(M6 F d c e f b n g p i m)) (funext fun q=>funext fun l=>funext fun o=>(Ao ..).trans (M5 N F b g d c e f N q l o)):_)
theorem To (d:LA) (c:Nat) (e f:Bool) (b:Int) (F:KF R):Xf [] Tm N 31 [(.imm d c 1 e f),(iv b)] [] F=(Fd N d c e f b (Cz F)):=by
 rw[P7]
 exact Eq.trans (by kernel_rfl) (He (Ku N (Cz F) · d c e f b) (funext fun g=>funext fun p=>funext fun i=>funext fun m=>(Ao ..).trans (M6 N F d c e f b N g p i m)):_)
def P8 (a:LA) (h:Ai) (k:KF R):O R :=
 match a,h with
 | [(.imm d c 1 e f),(.int .i64 b)],[]=>(Fd N d c e f b (Cz k))
 | _,_=>none
theorem Tp:C8 N 31 @P8:=by
 intro R Q a h k j;unfold P8;split;exact Hi (To ..) (To ..) trivial;exact Hj
def Tq:=Gz (Tp N)
def Tr:=Xg (Tp N)
def Vt (N:Nat) (k0:Int→Int→LA→LA→O R) (r0:Nat→Int→LA→O R) (g b:Nat) (m:Int) (d:LA) (c:Nat) (f e:Bool) (i:Int) (v:Nat) (l w x:LA) (k1:Int→Int→Int→LA→O R) (t u r:Int) (p:LA):O R :=
 (cond (decide (r<u)) (cond (Af r v) (Ko .i64 (x.drop (0+((r.toNat)*1))) fun ab=>(cond (Af m b) (Ko .i64 (p.drop (0+((m.toNat)*1))) fun ad=>(cond ((decide (ad<0))==false) (cond (Af ab g) (Ko .i64 (l.drop (0+((ab.toNat)*1))) fun ae=>(cond (Af m b) (Ko .i64 (p.drop (0+((m.toNat)*1))) fun ac=>(cond (Af ac g) (Ko .i64 (l.drop (0+((ac.toNat)*1))) fun af=>(cond (cond false true (decide (ae<af))) (cond (Af m b) (cond ((Nat.beq 1 1)&&((Nat.ble ((0+((m.toNat)*1))+1) (p.length))&&(!false))) (k1 t u (wrap .i64 (r+1)) (p.set (0+((m.toNat)*1)) (.int .i64 ab))) none) none) (k1 t u (wrap .i64 (r+1)) p))) none)) none)) none) (cond (Af m b) (cond ((Nat.beq 1 1)&&((Nat.ble ((0+((m.toNat)*1))+1) (p.length))&&(!false))) (k1 t u (wrap .i64 (r+1)) (p.set (0+((m.toNat)*1)) (.int .i64 ab))) none) none))) none)) none) (k0 i (wrap .i64 (t+1)) w p))
def H1 (k0:Int→Int→LA→LA→O R) (r0:Nat→Int→LA→O R) (g b:Nat) (m:Int) (d:LA) (c:Nat) (f e:Bool) (i:Int) (v:Nat) (l w x:LA):Nat→Int→Int→Int→LA→O R
 | 0,_,_,_,_=>none
 | n+1,t,u,r,p=>(Vt N k0 r0 g b m d c f e i v l w x (H1 k0 r0 g b m d c f e i v l w x n) t u r p)
def Vu (r0:Nat→Int→LA→O R) (g b:Nat) (d:LA) (c:Nat) (f e:Bool) (l:LA) (k0:Int→Int→LA→LA→O R) (q1:Int→Nat→LA→LA→Int→Int→Int→LA→O R) (i o:Int) (s q:LA):O R :=
 (cond (decide (o<i)) (cond (Af o c) (Ko .i64 (d.drop ((o.toNat)*1)) fun m=>(cond (Af m b) (cond ((Nat.beq 1 1)&&((Nat.ble ((0+((m.toNat)*1))+1) (q.length))&&(!false))) (Bm N b m s (fun v am w x=>(q1 m v w x o ((v:Nat):Int) 0 (q.set (0+((m.toNat)*1)) (.int .i64 (-1)))))) none) none)) none) (r0 b 0 q))
def H2 (r0:Nat→Int→LA→O R) (g b:Nat) (d:LA) (c:Nat) (f e:Bool) (l:LA):Nat→Int→Int→LA→LA→O R
 | 0,_,_,_,_=>none
 | n+1,i,o,s,q=>(Vu N r0 g b d c f e l (H2 r0 g b d c f e l n) (fun m v w x t u r p=>(H1 N (H2 r0 g b d c f e l n) r0 g b m d c f e i v l w x N t u r p)) i o s q)
def Zc (r0:Nat→Int→LA→O R) (q0:Nat→LA→Int→Int→LA→LA→O R) (y:LA) (b:Nat) (aa z:Bool) (d:LA) (c:Nat) (f e:Bool):O R :=
 (Iy N y b false z (fun ag=>(cond (!ag) (r0 0 1 []) (Fd N d c false e ((b:Nat):Int) (fun g ah l=>(cond (!ah) (r0 0 11 []) (Fa N y b false z (fun ai=>(cond ((decide (0≤((b:Nat):Int)))&&((decide (((b:Nat):Int)≤((b:Nat):Int)))&&((decide (((b:Nat):Int)≤140737488355328))&&(decide ((((b:Nat):Int)*((8:Nat):Int))≤140737488355328))))) (q0 g l ((c:Nat):Int) 0 ai (List.replicate b (.int .i64 0))) none)))))))))
def R3:=(Bx (fun (N:Nat) (y:LA) (b:Nat) (aa z:Bool) (d:LA) (c:Nat) (f e:Bool) (r0:Nat→Int→LA→O R)=>(Zc N r0 (fun g l i o s q=>(H2 N r0 g b d c f e l N i o s q)) y b aa z d c f e))).1
theorem CN (y b aa z d c f e r0):(@R3 R N y b aa z d c f e r0)=(Zc N r0 (fun g l i o s q=>(H2 N r0 g b d c f e l N i o s q)) y b aa z d c f e):=by rw[R3,(Bx _).2]
def HA:Hints:={ H:=(hS hL (hS hL (hS hL (hS hL (hS hL (hS hL (hS (hS hL (hS (hP [6,8,9,33,34,35] (hS hL (hS hL (hS (hS (hS hL (hS hL (hS hL (hS hL (hS (hP [6,8,9,11,33,34,35,48,49,50] hL) hL))))) hL) hL)))) hL)) hL))))))),nils:=[(4,1)],modes:=[(2,1),(0,0)] }
def KS:MK:=[(30,Oa N),(31,Tq N),(32,Kr N),(33,Ef N)]
def HC (F:KF R):=GP Try.f11 HA (KS N) [] N F
def Gc (F:KF R):Nat→Int→LA→O R:=(fun aj ak al=>F (.tup [(.own 300000 0 aj),(iv ak)]) (hq [(bQ 1 al)]))
def RR (g b:Nat) (m:Int) (d:LA) (c:Nat) (f e:Bool) (i:Int) (v:Nat) (l w x:LA) (t u r:Int) (p:LA):St:=⟨[(6,(.own 300000 0 g)),(8,(.nd 300001 (.whole b))),(9,(.own 300002 0 b)),(11,(iv m)),(33,(.imm d c 1 f e)),(34,(iv i)),(35,(iv t)),(48,(.own 300003 0 v)),(49,(iv u)),(50,(iv r))],(hq [(bQ 1 l),⟨false,false,true,false,2,w,true,none,0,0⟩,(bQ 1 p),(bQ 1 x)])⟩
def RS (F:KF R) (Q0:St→O R):=HC N F [1,1,1,1,1,1,0,1,0,0,1,1,0,0,1,1,1,1,0] [Q0]
def Ya (g b:Nat) (d:LA) (c:Nat) (f e:Bool) (l:LA) (i o:Int) (s q:LA):St:=⟨[(6,(.own 300000 0 g)),(8,(.nd 300001 (.whole b))),(9,(.own 300002 0 b)),(33,(.imm d c 1 f e)),(34,(iv i)),(35,(iv o))],(hq [(bQ 1 l),⟨false,false,true,false,2,s,true,none,0,0⟩,(bQ 1 q)])⟩
def HD (F:KF R):=HC N F [1,1,1,1,1,1,0,1,0] []
theorem Xo (Q0:St→O R) (F:KF R) (g b:Nat) (m:Int) (d:LA) (c:Nat) (f e:Bool) (i:Int) (v:Nat) (l w x:LA):∀ (n:Nat) (t u r:Int) (p:LA),Ar (RS N F Q0) n (RR g b m d c f e i v l w x t u r p)=(H1 N (fun i o s q=>Q0 (Ya g b d c f e l i o s q)) (Gc F) g b m d c f e i v l w x n t u r p)
 | 0,_,_,_,_=>by kernel_rfl
 | n+1,t,u,r,p=>Eq.trans (by kernel_rfl) (He (Vt N (fun i o s q=>Q0 (Ya g b d c f e l i o s q)) (Gc F) g b m d c f e i v l w x · t u r p) (funext fun t=>funext fun u=>funext fun r=>funext fun p=>(Xo Q0 F g b m d c f e i v l w x n t u r p)):_)
theorem Xp (F:KF R) (g b:Nat) (d:LA) (c:Nat) (f e:Bool) (l:LA):∀ (n:Nat) (i o:Int) (s q:LA),Ar (HD N F) n (Ya g b d c f e l i o s q)=(H2 N (Gc F) g b d c f e l n i o s q)
 | 0,_,_,_,_=>by kernel_rfl
 | n+1,i,o,s,q=>have e0:=(funext fun i=>funext fun o=>funext fun s=>funext fun q=>(Xp F g b d c f e l n i o s q))
  Eq.trans (by kernel_rfl) (PH (Vu N (Gc F) g b d c f e l · · i o s q) e0 (funext fun m=>funext fun v=>funext fun w=>funext fun x=>funext fun t=>funext fun u=>funext fun r=>funext fun p=>(Ao ..).trans ((Xo N (Ar (HD N F) n) F g b m d c f e i v l w x N t u r p).trans (He (H1 N · (Gc F) g b m d c f e i v l w x N t u r p) e0))):_)
theorem HE (y:LA) (b:Nat) (aa z:Bool) (d:LA) (c:Nat) (f e:Bool) (F:KF R):Xf (KS N) HA N 11 [(.imm y b 1 aa z),(.imm d c 1 f e)] [] F=(R3 N y b aa z d c f e (Gc F)):=by
 rw[CN]
 exact Eq.trans (by kernel_rfl) (He (Zc N (Gc F) · y b aa z d c f e) (funext fun g=>funext fun l=>funext fun i=>funext fun o=>funext fun s=>funext fun q=>(Ao ..).trans (Xp N F g b d c f e l N i o s q)):_)
def CO (a:LA) (h:Ai) (k:KF R):O R :=
 match a,h with
 | [(.imm y b 1 aa z),(.imm d c 1 f e)],[]=>(R3 N y b aa z d c f e (Gc k))
 | _,_=>none
theorem HF:C8 N 11 @CO:=by
 intro R Q a h k j;unfold CO;split;exact Hi (HE ..) (HE ..) ⟨Ob N,Tr N,Ks N,Eg N,trivial⟩;exact Hj
def HG:=Gz (HF N)
def HH:=Xg (HF N)
def Vv (r0:Int→Int→O R) (b:Nat) (d:LA) (c:Nat) (f e:Bool) (k0:Int→Int→Int→LA→O R) (i l g:Int) (m:LA):O R :=
 (cond (decide (g<l)) (cond (Af g c) (Ko .i64 (d.drop ((g.toNat)*1)) fun r=>(Bm N b r m (fun z s t aa=>(k0 (wrap .i64 (i+s)) l (wrap .i64 (g+1)) t)))) none) (r0 i 0))
def J7 (r0:Int→Int→O R) (b:Nat) (d:LA) (c:Nat) (f e:Bool):Nat→Int→Int→Int→LA→O R
 | 0,_,_,_,_=>none
 | n+1,i,l,g,m=>(Vv N r0 b d c f e (J7 r0 b d c f e n) i l g m)
def Zd (r0:Int→Int→O R) (q0:Int→Int→Int→LA→O R) (o:LA) (b:Nat) (q p:Bool) (d:LA) (c:Nat) (f e:Bool):O R :=
 (Iy N o b false p (fun u=>(cond (!u) (r0 0 1) (Fd N d c false e ((b:Nat):Int) (fun ab v ac=>(cond (!v) (r0 0 11) (Fa N o b false p (fun w=>(q0 0 ((c:Nat):Int) 0 w)))))))))
def F4:=(Bx (fun (N:Nat) (o:LA) (b:Nat) (q p:Bool) (d:LA) (c:Nat) (f e:Bool) (r0:Int→Int→O R)=>(Zd N r0 (fun i l g m=>(J7 N r0 b d c f e N i l g m)) o b q p d c f e))).1
theorem CP (o b q p d c f e r0):(@F4 R N o b q p d c f e r0)=(Zd N r0 (fun i l g m=>(J7 N r0 b d c f e N i l g m)) o b q p d c f e):=by rw[F4,(Bx _).2]
def HI:Hints:={ H:=(hS hL (hS hL (hS hL (hS hL (hS hL (hS (hS hL (hS (hP [8,9,28,29,30] hL) hL)) hL)))))) }
def KT:MK:=[(30,Oa N),(31,Tq N),(32,Kr N),(33,Ef N)]
def RT (F:KF R):=GP Try.f14 HI (KT N) [] N F
def M7 (F:KF R):Int→Int→O R:=(fun x y=>F (.tup [(iv x),(iv y)]) [])
def RU (b:Nat) (d:LA) (c:Nat) (f e:Bool) (i l g:Int) (m:LA):St:=⟨[(8,(.nd 300000 (.whole b))),(9,(iv i)),(28,(.imm d c 1 f e)),(29,(iv l)),(30,(iv g))],(hq [⟨false,false,true,false,2,m,true,none,0,0⟩])⟩
def RV (F:KF R):=RT N F [1,1,1,1,1,0,1,0] []
theorem Xq (F:KF R) (b:Nat) (d:LA) (c:Nat) (f e:Bool):∀ (n:Nat) (i l g:Int) (m:LA),Ar (RV N F) n (RU b d c f e i l g m)=(J7 N (M7 F) b d c f e n i l g m)
 | 0,_,_,_,_=>by kernel_rfl
 | n+1,i,l,g,m=>Eq.trans (by kernel_rfl) (He (Vv N (M7 F) b d c f e · i l g m) (funext fun i=>funext fun l=>funext fun g=>funext fun m=>(Xq F b d c f e n i l g m)):_)
theorem HJ (o:LA) (b:Nat) (q p:Bool) (d:LA) (c:Nat) (f e:Bool) (F:KF R):Xf (KT N) HI N 14 [(.imm o b 1 q p),(.imm d c 1 f e)] [] F=(F4 N o b q p d c f e (M7 F)):=by
 rw[CP]
 exact Eq.trans (by kernel_rfl) (He (Zd N (M7 F) · o b q p d c f e) (funext fun i=>funext fun l=>funext fun g=>funext fun m=>(Ao ..).trans (Xq N F b d c f e N i l g m)):_)
def CQ (a:LA) (h:Ai) (k:KF R):O R :=
 match a,h with
 | [(.imm o b 1 q p),(.imm d c 1 f e)],[]=>(F4 N o b q p d c f e (M7 k))
 | _,_=>none
theorem HK:C8 N 14 @CQ:=by
 intro R Q a h k j;unfold CQ;split;exact Hi (HJ ..) (HJ ..) ⟨Ob N,Tr N,Ks N,Eg N,trivial⟩;exact Hj
def Yb:=Gz (HK N)
def Yc:=Xg (HK N)
def J8 (N:Nat) (r0:Bool→O R) (d:LA) (b:Nat) (f g:Bool) (e:LA) (c:Nat) (i l:Bool) (k0:Int→O R) (m:Int):O R :=
 (cond (decide (m<((b:Nat):Int))) (cond (Af m b) (Ko .i64 (d.drop ((m.toNat)*1)) fun o=>(cond (Af m c) (Ko .i64 (e.drop ((m.toNat)*1)) fun p=>(cond (o != p) (r0 false) (k0 (wrap .i64 (m+1))))) none)) none) (r0 true))
def D9 (r0:Bool→O R) (d:LA) (b:Nat) (f g:Bool) (e:LA) (c:Nat) (i l:Bool):Nat→Int→O R
 | 0,_=>none
 | n+1,m=>(J8 N r0 d b f g e c i l (D9 r0 d b f g e c i l n) m)
def Kv (N:Nat) (r0:Bool→O R) (q0:Int→O R) (d:LA) (b:Nat) (f g:Bool) (e:LA) (c:Nat) (i l:Bool):O R :=
 (cond (((b:Nat):Int) != ((c:Nat):Int)) (r0 false) (q0 0))
def Fe:=(Bx (fun (N:Nat) (d:LA) (b:Nat) (f g:Bool) (e:LA) (c:Nat) (i l:Bool) (r0:Bool→O R)=>(Kv N r0 (fun m=>(D9 N r0 d b f g e c i l N m)) d b f g e c i l))).1
theorem P9 (d b f g e c i l r0):(@Fe R N d b f g e c i l r0)=(Kv N r0 (fun m=>(D9 N r0 d b f g e c i l N m)) d b f g e c i l):=by rw[Fe,(Bx _).2]
def DS (F:KF R):=GP Try.f34 YI [] [] N F
def Fp (F:KF R):Bool→O R:=(fun q=>F (.bool q) [])
def DT (d:LA) (b:Nat) (f g:Bool) (e:LA) (c:Nat) (i l:Bool) (m:Int):St:=⟨[(0,(.imm d b 1 f g)),(1,(.imm e c 1 i l)),(5,(iv m))],[]⟩
def DU (F:KF R):=DS N F [1,1,0,1,0] []
theorem M8 (F:KF R) (d:LA) (b:Nat) (f g:Bool) (e:LA) (c:Nat) (i l:Bool):∀ (n:Nat) (m:Int),Ar (DU N F) n (DT d b f g e c i l m)=(D9 N (Fp F) d b f g e c i l n m)
 | 0,_=>by kernel_rfl
 | n+1,m=>Eq.trans (by kernel_rfl) (He (J8 N (Fp F) d b f g e c i l · m) (funext fun m=>(M8 F d b f g e c i l n m)):_)
theorem Ts (d:LA) (b:Nat) (f g:Bool) (e:LA) (c:Nat) (i l:Bool) (F:KF R):Xf [] YI N 34 [(.imm d b 1 f g),(.imm e c 1 i l)] [] F=(Fe N d b f g e c i l (Fp F)):=by
 rw[P9]
 exact Eq.trans (by kernel_rfl) (He (Kv N (Fp F) · d b f g e c i l) (funext fun m=>(Ao ..).trans (M8 N F d b f g e c i l N m)):_)
def Qa (a:LA) (h:Ai) (k:KF R):O R :=
 match a,h with
 | [(.imm d b 1 f g),(.imm e c 1 i l)],[]=>(Fe N d b f g e c i l (Fp k))
 | _,_=>none
theorem Tt:C8 N 34 @Qa:=by
 intro R Q a h k j;unfold Qa;split;exact Hi (Ts ..) (Ts ..) trivial;exact Hj
def DV:=Gz (Tt N)
def DW:=Xg (Tt N)
def R4 (r0:Bool→O R):O R :=
 (Fc N [(.imm [(.int .i64 1)] 1 1 false false),(.imm [(.int .i64 0),(.int .i64 2)] 2 1 false false),(.imm [(.int .i64 1)] 1 1 false false)] 3 false true (fun b e c=>(R3 N [(.imm [(.int .i64 1)] 1 1 false false),(.imm [(.int .i64 0),(.int .i64 2)] 2 1 false false),(.imm [(.int .i64 1)] 1 1 false false)] 3 false true (c.take (b*1)) b false true (fun d f g=>(F4 N [(.imm [(.int .i64 1),(.int .i64 2),(.int .i64 3)] 3 1 false false),(.imm [(.int .i64 0)] 1 1 false false),(.imm [(.int .i64 0)] 1 1 false false),(.imm [(.int .i64 0)] 1 1 false false)] 4 false true [(.int .i64 0),(.int .i64 1),(.int .i64 2),(.int .i64 3)] 4 false true (fun i l=>(cond ((e==0)==true) (cond ((cond true (f==0) false)==true) (cond ((cond true (l==0) false)==true) (Fe N (c.take (b*1)) b false true [(.int .i64 0),(.int .i64 1),(.int .i64 2)] 3 false true (fun m=>(cond ((cond true m false)==true) (Fe N (g.take (d*1)) d false true [(.int .i64 1),(.int .i64 2),(.int .i64 (-1))] 3 false true (fun n=>(cond ((cond true n false)==true) (r0 (cond true (i==3) false)) (r0 false)))) (r0 false)))) (r0 false)) (r0 false)) (r0 false))))))))
def Ck:=(Bx (@R4 R)).1
theorem Tu:@Ck R=@R4 R:=(Bx _).2
def JH:MK:=[(21,Tk N),(11,HG N),(14,Yb N),(34,DV N)]
def Vw (F:KF R):Bool→O R:=(fun o=>F (.bool o) [])
theorem Vx (F:KF R):Xf (JH N) GQ N 12 [] [] F=(Ck N (Vw F)):=by
 rw[Tu]
 kernel_rfl
def Tv (a:LA) (h:Ai) (k:KF R):O R :=
 match a,h with
 | [],[]=>(Ck N (Vw k))
 | _,_=>none
theorem Vy:C8 N 12 @Tv:=by
 intro R Q a h k j;unfold Tv;split;exact Hi (Vx ..) (Vx ..) ⟨Tl N,HH N,Yc N,DW N,trivial⟩;exact Hj
def M9:=Gz (Vy N)
def Na:=Xg (Vy N)
end
end Gx

namespace Gx
open Go Go.Proofs
open IntKind (wrap)
set_option maxRecDepth 100000
noncomputable section
variable {R:Type} (N:Nat)
def Iz (r0:LA→LA→O R) (b:Nat) (k0:Int→Int→LA→LA→O R) (e c:Int) (f d:LA):O R :=
 (cond (decide (c<e)) (Ee N b c f (fun i l m=>(cond (Af c b) (cond ((Nat.beq 1 1)&&((Nat.ble ((0+((c.toNat)*1))+1) (d.length))&&(!false))) (k0 e (wrap .i64 (c+1)) l (d.set (0+((c.toNat)*1)) (.imm (m.take (i*1)) i 1 false false))) none) none))) (r0 f d))
def Dm (r0:LA→LA→O R) (b:Nat):Nat→Int→Int→LA→LA→O R
 | 0,_,_,_,_=>none
 | n+1,e,c,f,d=>(Iz N r0 b (Dm r0 b n) e c f d)
def I0 (N:Nat) (r0:LA→LA→O R) (q0:Int→Int→LA→LA→O R) (b:Nat) (g:LA):O R :=
 (cond ((decide (0≤((b:Nat):Int)))&&((decide (((b:Nat):Int)≤((b:Nat):Int)))&&((decide (((b:Nat):Int)≤140737488355328))&&(decide ((((b:Nat):Int)*((24:Nat):Int))≤140737488355328))))) (q0 ((b:Nat):Int) 0 g (List.replicate b .nsl)) none)
def Fy:=(Bx (fun (N b:Nat) (g:LA) (r0:LA→LA→O R)=>(I0 N r0 (fun e c f d=>(Dm N r0 b N e c f d)) b g))).1
theorem Od (b g r0):(@Fy R N b g r0)=(I0 N r0 (fun e c f d=>(Dm N r0 b N e c f d)) b g):=by rw[Fy,(Bx _).2]
def Qb:Hints:={ H:=(hS hL (hS hL (hS (hS hL (hS (hP [0,3,9,10] hL) hL)) hL))),nils:=[(2,1)],modes:=[(2,1)] }
def Tx:MK:=[(52,Ga N)]
def AS (F:KF R):=GP Try.f40 Qb (Tx N) [100000] N F
def E1 (b:Nat) (F:KF R):LA→LA→O R:=(fun o p=>F (.own 300000 0 b) [(100000,⟨false,false,true,false,2,o,true,none,0,0⟩),(300000,(bQ 1 p))])
def AT (b:Nat) (e c:Int) (f d:LA):St:=⟨[(0,(.nd 100000 (.whole b))),(3,(.own 300000 0 b)),(9,(iv e)),(10,(iv c))],[(100000,⟨false,false,true,false,2,f,true,none,0,0⟩),(300000,(bQ 1 d))]⟩
def AU (F:KF R):=AS N F [1,1,0,1,0] []
theorem Lm (F:KF R) (b:Nat):∀ (n:Nat) (e c:Int) (f d:LA),Ar (AU N F) n (AT b e c f d)=(Dm N (E1 b F) b n e c f d)
 | 0,_,_,_,_=>by kernel_rfl
 | n+1,e,c,f,d=>Eq.trans (by kernel_rfl) (He (Iz N (E1 b F) b · e c f d) (funext fun e=>funext fun c=>funext fun f=>funext fun d=>(Lm F b n e c f d)):_)
theorem Qc (b:Nat) (g:LA) (F:KF R):Xf (Tx N) Qb N 40 [(.nd 100000 (.whole b))] [(100000,⟨false,false,true,false,2,g,true,none,0,0⟩)] F=(Fy N b g (E1 b F)):=by
 rw[Od]
 exact Eq.trans (by kernel_rfl) (He (I0 N (E1 b F) · b g) (funext fun e=>funext fun c=>funext fun f=>funext fun d=>(Ao ..).trans (Lm N F b N e c f d)):_)
def Oe (a:LA) (h:Ai) (k:KF R):O R :=
 match a,h with
 | [(.nd 100000 (.whole b))],[(100000,⟨false,false,true,false,2,g,true,none,0,0⟩)]=>(Fy N b g (E1 b k))
 | _,_=>none
theorem Qd:C8 N 40 @Oe:=by
 intro R Q a h k j;unfold Oe;split;exact Hi (Qc ..) (Qc ..) ⟨Ky N,trivial⟩;exact Hj
def AW:=Gz (Qd N)
def AX:=Xg (Qd N)
def Ow (d:LA) (b:Nat) (f e:Bool) (c:Int) (r0:LA→Nat→Int→O R):O R :=
 (Iy N d b false e (fun g=>(cond (!g) (r0 [] 0 1) (cond ((decide (c<0))==false) (cond (cond false true (decide (c≥((b:Nat):Int)))) (r0 [] 0 3) (Fa N d b false e (fun i=>(Bm N b c i (fun q r l s=>(Fy N b l (fun t m=>(r0 (m.take (b*1)) b 0)))))))) (r0 [] 0 3)))))
def G0:=(Bx (@Ow R)).1
theorem Qe:@G0 R=@Ow R:=(Bx _).2
def DX:Hints:={ H:=hL,nils:=[(4,1)],modes:=[(1,1),(0,0)] }
def HL:MK:=[(30,Oa N),(32,Kr N),(33,Ef N),(40,AW N)]
def Ty (F:KF R):LA→Nat→Int→O R:=(fun n o p=>F (.tup [(.imm n o 1 false false),(iv p)]) [])
theorem Tz (d:LA) (b:Nat) (f e:Bool) (c:Int) (F:KF R):Xf (HL N) DX N 20 [(.imm d b 1 f e),(iv c)] [] F=(G0 N d b f e c (Ty F)):=by
 rw[Qe]
 kernel_rfl
def Qf (a:LA) (h:Ai) (k:KF R):O R :=
 match a,h with
 | [(.imm d b 1 f e),(.int .i64 c)],[]=>(G0 N d b f e c (Ty k))
 | _,_=>none
theorem T0:C8 N 20 @Qf:=by
 intro R Q a h k j;unfold Qf;split;exact Hi (Tz ..) (Tz ..) ⟨Ob N,Ks N,Eg N,AX N,trivial⟩;exact Hj
def DY:=Gz (T0 N)
def DZ:=Xg (T0 N)
def Vz (N:Nat) (r0:Bool→O R) (c:LA) (b:Nat) (e f:Bool) (d:Int) (k0:Int→O R) (g:Int):O R :=
 (cond (decide (g<((b:Nat):Int))) (cond (Af g b) (Ko .i64 (c.drop ((g.toNat)*1)) fun i=>(cond (i==d) (r0 true) (k0 (wrap .i64 (g+1))))) none) (r0 false))
def J9 (r0:Bool→O R) (c:LA) (b:Nat) (e f:Bool) (d:Int):Nat→Int→O R
 | 0,_=>none
 | n+1,g=>(Vz N r0 c b e f d (J9 r0 c b e f d n) g)
def Ze (N:Nat) (r0:Bool→O R) (q0:Int→O R) (c:LA) (b:Nat) (e f:Bool) (d:Int):O R :=
 (q0 0)
def Ws:=(Bx (fun (N:Nat) (c:LA) (b:Nat) (e f:Bool) (d:Int) (r0:Bool→O R)=>(Ze N r0 (fun g=>(J9 N r0 c b e f d N g)) c b e f d))).1
theorem CS (c b e f d r0):(@Ws R N c b e f d r0)=(Ze N r0 (fun g=>(J9 N r0 c b e f d N g)) c b e f d):=by rw[Ws,(Bx _).2]
def HM:Hints:={ H:=(hS hL (hS (hS hL (hS (hP [0,1,5] hL) hL)) hL)) }
def RW (F:KF R):=GP Try.f55 HM [] [] N F
def Nc (F:KF R):Bool→O R:=(fun l=>F (.bool l) [])
def RX (c:LA) (b:Nat) (e f:Bool) (d g:Int):St:=⟨[(0,(.imm c b 1 e f)),(1,(iv d)),(5,(iv g))],[]⟩
def RY (F:KF R):=RW N F [1,0,1,0] []
theorem Xr (F:KF R) (c:LA) (b:Nat) (e f:Bool) (d:Int):∀ (n:Nat) (g:Int),Ar (RY N F) n (RX c b e f d g)=(J9 N (Nc F) c b e f d n g)
 | 0,_=>by kernel_rfl
 | n+1,g=>Eq.trans (by kernel_rfl) (He (Vz N (Nc F) c b e f d · g) (funext fun g=>(Xr F c b e f d n g)):_)
theorem HN (c:LA) (b:Nat) (e f:Bool) (d:Int) (F:KF R):Xf [] HM N 55 [(.imm c b 1 e f),(iv d)] [] F=(Ws N c b e f d (Nc F)):=by
 rw[CS]
 exact Eq.trans (by kernel_rfl) (He (Ze N (Nc F) · c b e f d) (funext fun g=>(Ao ..).trans (Xr N F c b e f d N g)):_)
def CT (a:LA) (h:Ai) (k:KF R):O R :=
 match a,h with
 | [(.imm c b 1 e f),(.int .i64 d)],[]=>(Ws N c b e f d (Nc k))
 | _,_=>none
theorem HO:C8 N 55 @CT:=by
 intro R Q a h k j;unfold CT;split;exact Hi (HN ..) (HN ..) trivial;exact Hj
def RZ:=Gz (HO N)
def R_:=Xg (HO N)
def Ox (N:Nat) (k0:Int→O R) (r0:Bool→O R) (c:LA) (b:Nat) (e d:Bool) (k1:Int→Int→O R) (f g:Int):O R :=
 (cond (Af f b) (DA 1 (c.drop ((f.toNat)*1)) fun ae r=>(cond (decide (g<((r:Nat):Int))) (cond (Af f b) (DA 1 (c.drop ((f.toNat)*1)) fun s t=>(cond (Af g t) (Ko .i64 (s.drop ((g.toNat)*1)) fun p=>(cond ((decide (p<0))==false) (cond ((cond false true (decide (p≥((b:Nat):Int))))==false) (cond ((cond false true (p==f))==false) (cond ((decide (g>0))==true) (cond (Af f b) (DA 1 (c.drop ((f.toNat)*1)) fun u v=>(cond (Af (wrap .i64 (g - 1)) v) (Ko .i64 (u.drop (((wrap .i64 (g - 1)).toNat)*1)) fun w=>(cond (cond false true (cond true (decide (p≤w)) false)) (r0 false) (k1 f (wrap .i64 (g+1))))) none)) none) (k1 f (wrap .i64 (g+1)))) (r0 false)) (r0 false)) (r0 false))) none)) none) (k0 (wrap .i64 (f+1))))) none)
def G1 (k0:Int→O R) (r0:Bool→O R) (c:LA) (b:Nat) (e d:Bool):Nat→Int→Int→O R
 | 0,_,_=>none
 | n+1,f,g=>(Ox N k0 r0 c b e d (G1 k0 r0 c b e d n) f g)
def Oy (k2:Int→O R) (r0:Bool→O R) (c:LA) (b:Nat) (e d:Bool) (k3:Int→Int→O R) (i o:Int):O R :=
 (cond (Af i b) (DA 1 (c.drop ((i.toNat)*1)) fun af x=>(cond (decide (o<((x:Nat):Int))) (cond (Af i b) (DA 1 (c.drop ((i.toNat)*1)) fun y z=>(cond (Af o z) (Ko .i64 (y.drop ((o.toNat)*1)) fun q=>(cond (Af q b) (DA 1 (c.drop ((q.toNat)*1)) fun aa ab=>(Ws N aa ab false d i (fun ac=>(cond (!ac) (r0 false) (k3 i (wrap .i64 (o+1))))))) none)) none)) none) (k2 (wrap .i64 (i+1))))) none)
def G2 (k2:Int→O R) (r0:Bool→O R) (c:LA) (b:Nat) (e d:Bool):Nat→Int→Int→O R
 | 0,_,_=>none
 | n+1,i,o=>(Oy N k2 r0 c b e d (G2 k2 r0 c b e d n) i o)
def Oz (N:Nat) (r0:Bool→O R) (c:LA) (b:Nat) (e d:Bool) (k2:Int→O R) (q3:Int→Int→O R) (m:Int):O R :=
 (cond (decide (m<((b:Nat):Int))) (q3 m 0) (r0 true))
def G3 (r0:Bool→O R) (c:LA) (b:Nat) (e d:Bool):Nat→Int→O R
 | 0,_=>none
 | n+1,m=>(Oz N r0 c b e d (G3 r0 c b e d n) (fun i o=>(G2 N (G3 r0 c b e d n) r0 c b e d N i o)) m)
def O0 (N:Nat) (r0:Bool→O R) (c:LA) (b:Nat) (e d:Bool) (k0:Int→O R) (q1:Int→Int→O R) (q2:Int→O R) (l:Int):O R :=
 (cond (decide (l<((b:Nat):Int))) (q1 l 0) (q2 0))
def Ff (r0:Bool→O R) (c:LA) (b:Nat) (e d:Bool):Nat→Int→O R
 | 0,_=>none
 | n+1,l=>(O0 N r0 c b e d (Ff r0 c b e d n) (fun f g=>(G1 N (Ff r0 c b e d n) r0 c b e d N f g)) (fun m=>(G3 N r0 c b e d N m)) l)
def R5 (N:Nat) (r0:Bool→O R) (q0:Int→O R) (c:LA) (b:Nat) (e d:Bool):O R :=
 (cond (decide (((b:Nat):Int)>16384)) (r0 false) (q0 0))
def Mi:=(Bx (fun (N:Nat) (c:LA) (b:Nat) (e d:Bool) (r0:Bool→O R)=>(R5 N r0 (fun l=>(Ff N r0 c b e d N l)) c b e d))).1
theorem Xs (c b e d r0):(@Mi R N c b e d r0)=(R5 N r0 (fun l=>(Ff N r0 c b e d N l)) c b e d):=by rw[Mi,(Bx _).2]
def Zf:Hints:={ H:=(hS hL (hS hL (hS (hS hL (hS (hP [0,3] (hS hL (hS (hS (hS hL (hS (hP [0,3,4] hL) hL)) hL) hL))) hL)) (hS (hS hL (hS (hP [0,6] (hS hL (hS (hS (hS hL (hS (hP [0,6,7] hL) hL)) hL) hL))) hL)) hL)))) }
def CU:MK:=[(55,RZ N)]
def L9 (F:KF R):=GP Try.f39 Zf (CU N) [] N F
def B0 (F:KF R):Bool→O R:=(fun ad=>F (.bool ad) [])
def MN (c:LA) (b:Nat) (e d:Bool) (f g:Int):St:=⟨[(0,(.imm c b 1 e d)),(3,(iv f)),(4,(iv g))],[]⟩
def MO (F:KF R) (Q0:St→O R):=L9 N F [1,1,0,1,0,0,1,0,0,1,0] [Q0]
def MP (c:LA) (b:Nat) (e d:Bool) (i o:Int):St:=⟨[(0,(.imm c b 1 e d)),(6,(iv i)),(7,(iv o))],[]⟩
def MQ (F:KF R) (Q2:St→O R):=L9 N F [1,1,1,0,1,0,0,1,0,0,1,0] [Q2]
def R6 (c:LA) (b:Nat) (e d:Bool) (m:Int):St:=⟨[(0,(.imm c b 1 e d)),(6,(iv m))],[]⟩
def Zg (F:KF R):=L9 N F [1,1,1,0,1,0] []
def R7 (c:LA) (b:Nat) (e d:Bool) (l:Int):St:=⟨[(0,(.imm c b 1 e d)),(3,(iv l))],[]⟩
def Zh (F:KF R):=L9 N F [1,1,0,1,0] []
theorem T1 (Q0:St→O R) (F:KF R) (c:LA) (b:Nat) (e d:Bool):∀ (n:Nat) (f g:Int),Ar (MO N F Q0) n (MN c b e d f g)=(G1 N (fun l=>Q0 (R7 c b e d l)) (B0 F) c b e d n f g)
 | 0,_,_=>by kernel_rfl
 | n+1,f,g=>Eq.trans (by kernel_rfl) (He (Ox N (fun l=>Q0 (R7 c b e d l)) (B0 F) c b e d · f g) (funext fun f=>funext fun g=>(T1 Q0 F c b e d n f g)):_)
theorem T2 (Q2:St→O R) (F:KF R) (c:LA) (b:Nat) (e d:Bool):∀ (n:Nat) (i o:Int),Ar (MQ N F Q2) n (MP c b e d i o)=(G2 N (fun m=>Q2 (R6 c b e d m)) (B0 F) c b e d n i o)
 | 0,_,_=>by kernel_rfl
 | n+1,i,o=>Eq.trans (by kernel_rfl) (He (Oy N (fun m=>Q2 (R6 c b e d m)) (B0 F) c b e d · i o) (funext fun i=>funext fun o=>(T2 Q2 F c b e d n i o)):_)
theorem T3 (F:KF R) (c:LA) (b:Nat) (e d:Bool):∀ (n:Nat) (m:Int),Ar (Zg N F) n (R6 c b e d m)=(G3 N (B0 F) c b e d n m)
 | 0,_=>by kernel_rfl
 | n+1,m=>have e0:=(funext fun m=>(T3 F c b e d n m))
  Eq.trans (by kernel_rfl) (PH (Oz N (B0 F) c b e d · · m) e0 (funext fun i=>funext fun o=>(Ao ..).trans ((T2 N (Ar (Zg N F) n) F c b e d N i o).trans (He (G2 N · (B0 F) c b e d N i o) e0))):_)
theorem T4 (F:KF R) (c:LA) (b:Nat) (e d:Bool):∀ (n:Nat) (l:Int),Ar (Zh N F) n (R7 c b e d l)=(Ff N (B0 F) c b e d n l)
 | 0,_=>by kernel_rfl
 | n+1,l=>have e0:=(funext fun l=>(T4 F c b e d n l))
  Eq.trans (by kernel_rfl) (bK (O0 N (B0 F) c b e d · · · l) e0 (funext fun f=>funext fun g=>(Ao ..).trans ((T1 N (Ar (Zh N F) n) F c b e d N f g).trans (He (G1 N · (B0 F) c b e d N f g) e0))) (funext fun m=>(Ao ..).trans (T3 N F c b e d N m)):_)
theorem Zi (c:LA) (b:Nat) (e d:Bool) (F:KF R):Xf (CU N) Zf N 39 [(.imm c b 1 e d)] [] F=(Mi N c b e d (B0 F)):=by
 rw[Xs]
 exact Eq.trans (by kernel_rfl) (He (R5 N (B0 F) · c b e d) (funext fun l=>(Ao ..).trans (T4 N F c b e d N l)):_)
def Xt (a:LA) (h:Ai) (k:KF R):O R :=
 match a,h with
 | [(.imm c b 1 e d)],[]=>(Mi N c b e d (B0 k))
 | _,_=>none
theorem Zj:C8 N 39 @Xt:=by
 intro R Q a h k j;unfold Xt;split;exact Hi (Zi ..) (Zi ..) ⟨R_ N,trivial⟩;exact Hj
def MR:=Gz (Zj N)
def MS:=Xg (Zj N)
def O1 (N:Nat) (k0:Int→LA→O R) (r0:LA→O R) (c:LA) (b:Nat) (d e:Bool) (k1:Int→Int→LA→O R) (f l:Int) (m:LA):O R :=
 (cond (Af f b) (DA 1 (c.drop ((f.toNat)*1)) fun w q=>(cond (decide (l<((q:Nat):Int))) (cond (Af f b) (C4 1 m (f.toNat) fun x r=>(cond (Af f b) (DA 1 (c.drop ((f.toNat)*1)) fun s t=>(cond (Af l t) (Ko .i64 (s.drop ((l.toNat)*1)) fun o=>(cond (Af o r) (C4 1 m (f.toNat) fun p u=>(cond (Nat.blt ((o.toNat)*1) p.length) (k1 f (wrap .i64 (l+1)) (m.set (f.toNat) (Bo (p.set ((o.toNat)*1) (.bool true)) u 1))) none)) none)) none)) none)) none) (k0 (wrap .i64 (f+1)) m))) none)
def G4 (k0:Int→LA→O R) (r0:LA→O R) (c:LA) (b:Nat) (d e:Bool):Nat→Int→Int→LA→O R
 | 0,_,_,_=>none
 | n+1,f,l,m=>(O1 N k0 r0 c b d e (G4 k0 r0 c b d e n) f l m)
def O2 (N:Nat) (r0:LA→O R) (c:LA) (b:Nat) (d e:Bool) (k0:Int→LA→O R) (q1:Int→Int→LA→O R) (g:Int) (i:LA):O R :=
 (cond (decide (g<((b:Nat):Int))) (cond ((decide (0≤((b:Nat):Int)))&&((decide (((b:Nat):Int)≤((b:Nat):Int)))&&((decide (((b:Nat):Int)≤140737488355328))&&(decide ((((b:Nat):Int)*((1:Nat):Int))≤140737488355328))))) (cond (Af g b) (cond (Nat.ble 1 b) (q1 g 0 (i.set (g.toNat) (Bo (List.take (b*1) (List.replicate b (.bool false))) b 1))) none) none) none) (r0 i))
def Fg (r0:LA→O R) (c:LA) (b:Nat) (d e:Bool):Nat→Int→LA→O R
 | 0,_,_=>none
 | n+1,g,i=>(O2 N r0 c b d e (Fg r0 c b d e n) (fun f l m=>(G4 N (Fg r0 c b d e n) r0 c b d e N f l m)) g i)
def R8 (N:Nat) (r0:LA→O R) (q0:Int→LA→O R) (c:LA) (b:Nat) (d e:Bool):O R :=
 (cond ((decide (0≤((b:Nat):Int)))&&((decide (((b:Nat):Int)=((b:Nat):Int)))&&((decide (((b:Nat):Int)≤140737488355328))&&(decide ((((b:Nat):Int)*((24:Nat):Int))≤140737488355328))))) (q0 0 (List.replicate b .nsl)) none)
def Mj:=(Bx (fun (N:Nat) (c:LA) (b:Nat) (d e:Bool) (r0:LA→O R)=>(R8 N r0 (fun g i=>(Fg N r0 c b d e N g i)) c b d e))).1
theorem Xu (c b d e r0):(@Mj R N c b d e r0)=(R8 N r0 (fun g i=>(Fg N r0 c b d e N g i)) c b d e):=by rw[Mj,(Bx _).2]
def Zk:Hints:={ H:=(hS hL (hS hL (hS (hS hL (hS (hP [0,3,4] (hS hL (hS (hS (hS hL (hS hL (hS (hP [0,3,4,5] hL) hL))) hL) hL))) hL)) hL))),nils:=[(2,1)],modes:=[(2,1)],cob:=[2000008] }
def Zl (F:KF R):=GP Try.f53 Zk [] [] N F
def Eh (b:Nat) (F:KF R):LA→O R:=(fun v=>F (.nd 300000 (.whole b)) (hq [⟨false,false,true,false,3,v,true,none,0,0⟩]))
def MT (c:LA) (b:Nat) (d e:Bool) (f l:Int) (m:LA):St:=⟨[(0,(.imm c b 1 d e)),(3,(.nd 300000 (.whole b))),(4,(iv f)),(5,(iv l))],(hq [⟨false,false,true,false,3,m,true,none,0,0⟩])⟩
def MU (F:KF R) (Q0:St→O R):=Zl N F [1,1,0,1,0,0,1,0,0,1,1,0] [Q0]
def R9 (c:LA) (b:Nat) (d e:Bool) (g:Int) (i:LA):St:=⟨[(0,(.imm c b 1 d e)),(3,(.nd 300000 (.whole b))),(4,(iv g))],(hq [⟨false,false,true,false,3,i,true,none,0,0⟩])⟩
def Zm (F:KF R):=Zl N F [1,1,0,1,0] []
theorem T5 (Q0:St→O R) (F:KF R) (c:LA) (b:Nat) (d e:Bool):∀ (n:Nat) (f l:Int) (m:LA),Ar (MU N F Q0) n (MT c b d e f l m)=(G4 N (fun g i=>Q0 (R9 c b d e g i)) (Eh b F) c b d e n f l m)
 | 0,_,_,_=>by kernel_rfl
 | n+1,f,l,m=>Eq.trans (by kernel_rfl) (He (O1 N (fun g i=>Q0 (R9 c b d e g i)) (Eh b F) c b d e · f l m) (funext fun f=>funext fun l=>funext fun m=>(T5 Q0 F c b d e n f l m)):_)
theorem T6 (F:KF R) (c:LA) (b:Nat) (d e:Bool):∀ (n:Nat) (g:Int) (i:LA),Ar (Zm N F) n (R9 c b d e g i)=(Fg N (Eh b F) c b d e n g i)
 | 0,_,_=>by kernel_rfl
 | n+1,g,i=>have e0:=(funext fun g=>funext fun i=>(T6 F c b d e n g i))
  Eq.trans (by kernel_rfl) (PH (O2 N (Eh b F) c b d e · · g i) e0 (funext fun f=>funext fun l=>funext fun m=>(Ao ..).trans ((T5 N (Ar (Zm N F) n) F c b d e N f l m).trans (He (G4 N · (Eh b F) c b d e N f l m) e0))):_)
theorem Zn (c:LA) (b:Nat) (d e:Bool) (F:KF R):Xf [] Zk N 53 [(.imm c b 1 d e)] [] F=(Mj N c b d e (Eh b F)):=by
 rw[Xu]
 exact Eq.trans (by kernel_rfl) (He (R8 N (Eh b F) · c b d e) (funext fun g=>funext fun i=>(Ao ..).trans (T6 N F c b d e N g i)):_)
def Xv (a:LA) (h:Ai) (k:KF R):O R :=
 match a,h with
 | [(.imm c b 1 d e)],[]=>(Mj N c b d e (Eh b k))
 | _,_=>none
theorem Zo:C8 N 53 @Xv:=by
 intro R Q a h k j;unfold Xv;split;exact Hi (Zn ..) (Zn ..) trivial;exact Hj
def MV:=Gz (Zo N)
def MW:=Xg (Zo N)
def Ch (N:Nat) (k0:Int→Int→LA→O R) (k1:Int→Int→Int→LA→O R) (r0:Int→LA→O R) (c:Nat) (b d:Int) (t p:Int) (u:Bool) (r:LA):O R :=
 (cond u (cond (Af d c) (C4 1 r (d.toNat) fun av ac=>(cond (Af p c) (C4 1 r (p.toNat) fun aw ad=>(cond (Af p ac) (C4 1 r (d.toNat) fun w y=>(cond (Nat.blt ((p.toNat)*1) w.length) (cond (Af d ad) (C4 1 (r.set (d.toNat) (Bo (w.set ((p.toNat)*1) (.bool true)) y 1)) (p.toNat) fun z ae=>(cond (Nat.blt ((d.toNat)*1) z.length) (k1 (wrap .i64 (t+1)) d (wrap .i64 (p+1)) ((r.set (d.toNat) (Bo (w.set ((p.toNat)*1) (.bool true)) y 1)).set (p.toNat) (Bo (z.set ((d.toNat)*1) (.bool true)) ae 1))) none)) none) none)) none)) none)) none) (k1 t d (wrap .i64 (p+1)) r))
def Gd (N:Nat) (k0:Int→Int→LA→O R) (r0:Int→LA→O R) (c:Nat) (b:Int) (k1:Int→Int→Int→LA→O R) (q3:Int→Int→Bool→LA→O R) (o d l:Int) (e:LA):O R :=
 (cond (decide (l<d)) (cond (Af b c) (C4 1 e (b.toNat) fun ax af=>(cond (Af d af) (C4 1 e (b.toNat) fun ag ay=>(aR (ag.drop ((d.toNat)*1)) fun ah=>(cond (ah==true) (cond (Af b c) (C4 1 e (b.toNat) fun az ai=>(cond (Af l ai) (C4 1 e (b.toNat) fun aj ba=>(aR (aj.drop ((l.toNat)*1)) fun ak=>(cond ((cond true ak false)==true) (cond (Af d c) (C4 1 e (d.toNat) fun bb al=>(cond (Af l al) (C4 1 e (d.toNat) fun am bc=>(aR (am.drop ((l.toNat)*1)) fun an=>(q3 o l (cond true (!an) false) e))) none)) none) (q3 o l false e)))) none)) none) (q3 o l false e)))) none)) none) (k0 o (wrap .i64 (d+1)) e))
def Bi (k0:Int→Int→LA→O R) (r0:Int→LA→O R) (c:Nat) (b:Int):Nat→Int→Int→Int→LA→O R
 | 0,_,_,_,_=>none
 | n+1,o,d,l,e=>(Gd N k0 r0 c b (Bi k0 r0 c b n) (fun t p u r=>(Ch N k0 (Bi k0 r0 c b n) r0 c b d t p u r)) o d l e)
def Ge (N:Nat) (r0:Int→LA→O R) (c:Nat) (b:Int) (k2:Int→Int→LA→O R) (s m:Int) (q:LA):O R :=
 (cond (decide (m<((c:Nat):Int))) (cond (Af b c) (C4 1 q (b.toNat) fun bd ao=>(cond (Af m c) (C4 1 q (m.toNat) fun be ap=>(cond (Af m ao) (C4 1 q (b.toNat) fun x aa=>(cond (Nat.blt ((m.toNat)*1) x.length) (cond (Af b ap) (C4 1 (q.set (b.toNat) (Bo (x.set ((m.toNat)*1) (.bool false)) aa 1)) (m.toNat) fun ab aq=>(cond (Nat.blt ((b.toNat)*1) ab.length) (k2 s (wrap .i64 (m+1)) ((q.set (b.toNat) (Bo (x.set ((m.toNat)*1) (.bool false)) aa 1)).set (m.toNat) (Bo (ab.set ((b.toNat)*1) (.bool false)) aq 1))) none)) none) none)) none)) none)) none) (r0 s q))
def Da (r0:Int→LA→O R) (c:Nat) (b:Int):Nat→Int→Int→LA→O R
 | 0,_,_,_=>none
 | n+1,s,m,q=>(Ge N r0 c b (Da r0 c b n) s m q)
def Gf (N:Nat) (r0:Int→LA→O R) (c:Nat) (b:Int) (k0:Int→Int→LA→O R) (q1:Int→Int→Int→LA→O R) (q2:Int→Int→LA→O R) (f g:Int) (i:LA):O R :=
 (cond (decide (g<((c:Nat):Int))) (q1 f g 0 i) (q2 f 0 i))
def Bj (r0:Int→LA→O R) (c:Nat) (b:Int):Nat→Int→Int→LA→O R
 | 0,_,_,_=>none
 | n+1,f,g,i=>(Gf N r0 c b (Bj r0 c b n) (fun o d l e=>(Bi N (Bj r0 c b n) r0 c b N o d l e)) (fun s m q=>(Da N r0 c b N s m q)) f g i)
def F5 (N:Nat) (r0:Int→LA→O R) (q0:Int→Int→LA→O R) (c:Nat) (b:Int) (v:LA):O R :=
 (q0 0 0 v)
def Dn:=(Bx (fun (N c:Nat) (b:Int) (v:LA) (r0:Int→LA→O R)=>(F5 N r0 (fun f g i=>(Bj N r0 c b N f g i)) c b v))).1
theorem K4 (c b v r0):(@Dn R N c b v r0)=(F5 N r0 (fun f g i=>(Bj N r0 c b N f g i)) c b v):=by rw[Dn,(Bx _).2]
def Ln:Hints:={ H:=(hS hL (hS hL (hS (hS hL (hS (hP [0,1,5,6] (hS hL (hS (hS (hS hL (hS (hP [0,1,5,6,7] (hS hL (hS (hS (hJ [0,1,5,6,7,45] hL hL) hL) hL))) hL)) hL) hL))) hL)) (hS (hS hL (hS (hP [0,1,5,8] hL) hL)) hL)))) }
def Et (F:KF R):=GP Try.f54 Ln [] [100000] N F
def At (F:KF R):Int→LA→O R:=(fun ar au=>F (iv ar) [(100000,⟨false,false,true,false,3,au,true,none,0,0⟩)])
def Wx (c:Nat) (b d t p:Int) (u:Bool) (r:LA):St:=⟨[(0,(.nd 100000 (.whole c))),(1,(iv b)),(5,(iv t)),(6,(iv d)),(7,(iv p)),(45,(.bool u))],[(100000,⟨false,false,true,false,3,r,true,none,0,0⟩)]⟩
def Wy (F:KF R) (Q0 Q1:St→O R):=Et N F [1,1,0,1,0,0,1,0,0,1,0,0,1,0,0,1] [Q0,Q1]
def Lo (c:Nat) (b o d l:Int) (e:LA):St:=⟨[(0,(.nd 100000 (.whole c))),(1,(iv b)),(5,(iv o)),(6,(iv d)),(7,(iv l))],[(100000,⟨false,false,true,false,3,e,true,none,0,0⟩)]⟩
def Lp (F:KF R) (Q0:St→O R):=Et N F [1,1,0,1,0,0,1,0,0,1,0] [Q0]
def Wz (c:Nat) (b s m:Int) (q:LA):St:=⟨[(0,(.nd 100000 (.whole c))),(1,(iv b)),(5,(iv s)),(8,(iv m))],[(100000,⟨false,false,true,false,3,q,true,none,0,0⟩)]⟩
def W0 (F:KF R):=Et N F [1,1,1,0,1,0] []
def Db (c:Nat) (b f g:Int) (i:LA):St:=⟨[(0,(.nd 100000 (.whole c))),(1,(iv b)),(5,(iv f)),(6,(iv g))],[(100000,⟨false,false,true,false,3,i,true,none,0,0⟩)]⟩
def Lq (F:KF R):=Et N F [1,1,0,1,0] []
theorem Sa (Q0 Q1:St→O R) (F:KF R) (c:Nat) (b d:Int):∀ (t p:Int) (u:Bool) (r:LA),X8 (Wy N F Q0 Q1) (Wx c b d t p u r)=(Ch N (fun f g i=>Q0 (Db c b f g i)) (fun o d l e=>Q1 (Lo c b o d l e)) (At F) c b d t p u r):=by
 intro t p u r
 kernel_rfl
theorem I3 (Q0:St→O R) (F:KF R) (c:Nat) (b:Int):∀ (n:Nat) (o d l:Int) (e:LA),Ar (Lp N F Q0) n (Lo c b o d l e)=(Bi N (fun f g i=>Q0 (Db c b f g i)) (At F) c b n o d l e)
 | 0,_,_,_,_=>by kernel_rfl
 | n+1,o,d,l,e=>have e0:=(funext fun o=>funext fun d=>funext fun l=>funext fun e=>(I3 Q0 F c b n o d l e))
  Eq.trans (by kernel_rfl) (PH (Gd N (fun f g i=>Q0 (Db c b f g i)) (At F) c b · · o d l e) e0 (funext fun t=>funext fun p=>funext fun u=>funext fun r=>(Mh ..).trans ((Sa N Q0 (Ar (Lp N F Q0) n) F c b d t p u r).trans (He (Ch N (fun f g i=>Q0 (Db c b f g i)) · (At F) c b d t p u r) e0))):_)
theorem I4 (F:KF R) (c:Nat) (b:Int):∀ (n:Nat) (s m:Int) (q:LA),Ar (W0 N F) n (Wz c b s m q)=(Da N (At F) c b n s m q)
 | 0,_,_,_=>by kernel_rfl
 | n+1,s,m,q=>Eq.trans (by kernel_rfl) (He (Ge N (At F) c b · s m q) (funext fun s=>funext fun m=>funext fun q=>(I4 F c b n s m q)):_)
theorem I5 (F:KF R) (c:Nat) (b:Int):∀ (n:Nat) (f g:Int) (i:LA),Ar (Lq N F) n (Db c b f g i)=(Bj N (At F) c b n f g i)
 | 0,_,_,_=>by kernel_rfl
 | n+1,f,g,i=>have e0:=(funext fun f=>funext fun g=>funext fun i=>(I5 F c b n f g i))
  Eq.trans (by kernel_rfl) (bK (Gf N (At F) c b · · · f g i) e0 (funext fun o=>funext fun d=>funext fun l=>funext fun e=>(Ao ..).trans ((I3 N (Ar (Lq N F) n) F c b N o d l e).trans (He (Bi N · (At F) c b N o d l e) e0))) (funext fun s=>funext fun m=>funext fun q=>(Ao ..).trans (I4 N F c b N s m q)):_)
theorem Lr (c:Nat) (b:Int) (v:LA) (F:KF R):Xf [] Ln N 54 [(.nd 100000 (.whole c)),(iv b)] [(100000,⟨false,false,true,false,3,v,true,none,0,0⟩)] F=(Dn N c b v (At F)):=by
 rw[K4]
 exact Eq.trans (by kernel_rfl) (He (F5 N (At F) · c b v) (funext fun f=>funext fun g=>funext fun i=>(Ao ..).trans (I5 N F c b N f g i)):_)
def K5 (a:LA) (h:Ai) (k:KF R):O R :=
 match a,h with
 | [(.nd 100000 (.whole c)),(.int .i64 b)],[(100000,⟨false,false,true,false,3,v,true,none,0,0⟩)]=>(Dn N c b v (At k))
 | _,_=>none
theorem Ls:C8 N 54 @K5:=by
 intro R Q a h k j;unfold K5;split;exact Hi (Lr ..) (Lr ..) trivial;exact Hj
def W1:=Gz (Ls N)
def W2:=Xg (Ls N)
def Hf (N:Nat) (k0:Int→LA→O R) (r0:LA→O R) (b:Nat) (c:LA) (k1:Int→Int→LA→O R) (d g:Int) (i:LA):O R :=
 (cond (decide (g<((b:Nat):Int))) (cond (Af d b) (C4 1 c (d.toNat) fun s m=>(cond (Af g m) (C4 1 c (d.toNat) fun o t=>(aR (o.drop ((g.toNat)*1)) fun p=>(cond p (cond (Af d b) (C4 1 i (d.toNat) fun u l=>(C4 1 i (d.toNat) fun q v=>(cond ((Nat.ble (l+1) 140737488355328)&&(Nat.ble ((l+1)*8) 140737488355328)) (cond (Af d b) (cond (Nat.ble 1 (l+1)) (k1 d (wrap .i64 (g+1)) ((i.set (d.toNat) .undef).set (d.toNat) (Bo (List.take ((l+1)*1) ((q.take (l*1))++[(.int .i64 g)])) (l+1) 1))) none) none) none))) none) (k1 d (wrap .i64 (g+1)) i)))) none)) none) (k0 (wrap .i64 (d+1)) i))
def Ct (k0:Int→LA→O R) (r0:LA→O R) (b:Nat) (c:LA):Nat→Int→Int→LA→O R
 | 0,_,_,_=>none
 | n+1,d,g,i=>(Hf N k0 r0 b c (Ct k0 r0 b c n) d g i)
def Hg (N:Nat) (r0:LA→O R) (b:Nat) (c:LA) (k0:Int→LA→O R) (q1:Int→Int→LA→O R) (f:Int) (e:LA):O R :=
 (cond (decide (f<((b:Nat):Int))) (q1 f 0 e) (cond ((List.all e E')&&true) (r0 e) none))
def B5 (r0:LA→O R) (b:Nat) (c:LA):Nat→Int→LA→O R
 | 0,_,_=>none
 | n+1,f,e=>(Hg N r0 b c (B5 r0 b c n) (fun d g i=>(Ct N (B5 r0 b c n) r0 b c N d g i)) f e)
def G5 (N:Nat) (r0:LA→O R) (q0:Int→LA→O R) (b:Nat) (c:LA):O R :=
 (cond ((decide (0≤((b:Nat):Int)))&&((decide (((b:Nat):Int)=((b:Nat):Int)))&&((decide (((b:Nat):Int)≤140737488355328))&&(decide ((((b:Nat):Int)*((24:Nat):Int))≤140737488355328))))) (q0 0 (List.replicate b .nsl)) none)
def Ea:=(Bx (fun (N b:Nat) (c:LA) (r0:LA→O R)=>(G5 N r0 (fun f e=>(B5 N r0 b c N f e)) b c))).1
theorem Lt (b c r0):(@Ea R N b c r0)=(G5 N r0 (fun f e=>(B5 N r0 b c N f e)) b c):=by rw[Ea,(Bx _).2]
def Nd:Hints:={ H:=(hS hL (hS hL (hS (hS hL (hS (hP [0,3,4] (hS hL (hS (hS (hS hL (hS (hP [0,3,4,5] hL) hL)) hL) hL))) hL)) hL))),nils:=[(2,1)],modes:=[(1,1)],cob:=[2000008] }
def Nf (F:KF R):=GP Try.f49 Nd [] [100000] N F
def Bv (b:Nat) (c:LA) (F:KF R):LA→O R:=(fun r=>F (.imm r b 1 false false) [(100000,⟨false,false,true,false,3,c,true,none,0,0⟩)])
def Yd (b:Nat) (c:LA) (d g:Int) (i:LA):St:=⟨[(0,(.nd 100000 (.whole b))),(3,(.nd 300000 (.whole b))),(4,(iv d)),(5,(iv g))],[(100000,⟨false,false,true,false,3,c,true,none,0,0⟩),(300000,⟨false,false,true,false,3,i,true,none,0,0⟩)]⟩
def Ye (F:KF R) (Q0:St→O R):=Nf N F [1,1,0,1,0,0,1,0,0,1,0] [Q0]
def H3 (b:Nat) (c:LA) (f:Int) (e:LA):St:=⟨[(0,(.nd 100000 (.whole b))),(3,(.nd 300000 (.whole b))),(4,(iv f))],[(100000,⟨false,false,true,false,3,c,true,none,0,0⟩),(300000,⟨false,false,true,false,3,e,true,none,0,0⟩)]⟩
def Ng (F:KF R):=Nf N F [1,1,0,1,0] []
theorem Jf (Q0:St→O R) (F:KF R) (b:Nat) (c:LA):∀ (n:Nat) (d g:Int) (i:LA),Ar (Ye N F Q0) n (Yd b c d g i)=(Ct N (fun f e=>Q0 (H3 b c f e)) (Bv b c F) b c n d g i)
 | 0,_,_,_=>by kernel_rfl
 | n+1,d,g,i=>Eq.trans (by kernel_rfl) (He (Hf N (fun f e=>Q0 (H3 b c f e)) (Bv b c F) b c · d g i) (funext fun d=>funext fun g=>funext fun i=>(Jf Q0 F b c n d g i)):_)
theorem Jg (F:KF R) (b:Nat) (c:LA):∀ (n:Nat) (f:Int) (e:LA),Ar (Ng N F) n (H3 b c f e)=(B5 N (Bv b c F) b c n f e)
 | 0,_,_=>by kernel_rfl
 | n+1,f,e=>have e0:=(funext fun f=>funext fun e=>(Jg F b c n f e))
  Eq.trans (by kernel_rfl) (PH (Hg N (Bv b c F) b c · · f e) e0 (funext fun d=>funext fun g=>funext fun i=>(Ao ..).trans ((Jf N (Ar (Ng N F) n) F b c N d g i).trans (He (Ct N · (Bv b c F) b c N d g i) e0))):_)
theorem Nh (b:Nat) (c:LA) (F:KF R):Xf [] Nd N 49 [(.nd 100000 (.whole b))] [(100000,⟨false,false,true,false,3,c,true,none,0,0⟩)] F=(Ea N b c (Bv b c F)):=by
 rw[Lt]
 exact Eq.trans (by kernel_rfl) (He (G5 N (Bv b c F) · b c) (funext fun f=>funext fun e=>(Ao ..).trans (Jg N F b c N f e)):_)
def Lu (a:LA) (h:Ai) (k:KF R):O R :=
 match a,h with
 | [(.nd 100000 (.whole b))],[(100000,⟨false,false,true,false,3,c,true,none,0,0⟩)]=>(Ea N b c (Bv b c k))
 | _,_=>none
theorem Ni:C8 N 49 @Lu:=by
 intro R Q a h k j;unfold Lu;split;exact Hi (Nh ..) (Nh ..) trivial;exact Hj
def Yf:=Gz (Ni N)
def Yg:=Xg (Ni N)
end
end Gx

namespace Gx
open Go Go.Proofs
open IntKind (wrap)
set_option maxRecDepth 100000
noncomputable section
variable {R:Type} (N:Nat)
def Nj (d:LA) (b:Nat) (f e:Bool) (c:Int) (r0:LA→Nat→Int→O R):O R :=
 (Mi N d b false e (fun g=>(cond (!g) (r0 [] 0 1) (cond ((decide (c<0))==false) (cond (cond false true (decide (c≥((b:Nat):Int)))) (r0 [] 0 3) (Mj N d b false e (fun i=>(Dn N b c i (fun q l=>(Ea N b l (fun m=>(r0 m b 0)))))))) (r0 [] 0 3)))))
def Hl:=(Bx (@Nj R)).1
theorem Of:@Hl R=@Nj R:=(Bx _).2
def AY:Hints:={ H:=hL,nils:=[(4,1)],modes:=[(1,1),(0,0)] }
def D_:MK:=[(39,MR N),(53,MV N),(54,W1 N),(49,Yf N)]
def Qg (F:KF R):LA→Nat→Int→O R:=(fun n o p=>F (.tup [(.imm n o 1 false false),(iv p)]) [])
theorem Qh (d:LA) (b:Nat) (f e:Bool) (c:Int) (F:KF R):Xf (D_ N) AY N 35 [(.imm d b 1 f e),(iv c)] [] F=(Hl N d b f e c (Qg F)):=by
 rw[Of]
 kernel_rfl
def Og (a:LA) (h:Ai) (k:KF R):O R :=
 match a,h with
 | [(.imm d b 1 f e),(.int .i64 c)],[]=>(Hl N d b f e c (Qg k))
 | _,_=>none
theorem Qi:C8 N 35 @Og:=by
 intro R Q a h k j;unfold Og;split;exact Hi (Qh ..) (Qh ..) ⟨MS N,MW N,W2 N,Yg N,trivial⟩;exact Hj
def AZ:=Gz (Qi N)
def A_:=Xg (Qi N)
end
end Gx

namespace Gx
open Go Go.Proofs
open IntKind (wrap)
set_option maxRecDepth 100000
noncomputable section
variable {R:Type} (N:Nat)
def G6 (r0:Nat→Int→LA→O R) (g:Int) (b:LA) (c:Nat) (d e:Bool) (k0:Nat→Int→Int→LA→O R) (f:Nat) (i m:Int) (l:LA):O R :=
 (cond (decide (i<g)) (Dd N (wrap .i64 (i+1)) b c d e m (fun o q=>(cond ((decide ((0:Int)≤(0:Int)))&&((decide (0≤o))&&((decide (o≤((f:Nat):Int)))&&(decide (((f:Nat):Int)≤((f:Nat):Int)))))) (cond ((Nat.ble (0+(o.toNat)) 140737488355328)&&(Nat.ble ((0+(o.toNat))*8) 140737488355328)) (cond ((Nat.ble ((0+(o.toNat))+1) 140737488355328)&&(Nat.ble (((0+(o.toNat))+1)*8) 140737488355328)) (cond ((decide (0≤o))&&((decide (o≤((f:Nat):Int)))&&((decide (((f:Nat):Int)≤((f:Nat):Int)))&&(decide (((f:Nat):Int)≤((f:Nat):Int)))))) (cond ((Nat.ble (((0+(o.toNat))+1)+(f - (o.toNat))) 140737488355328)&&(Nat.ble ((((0+(o.toNat))+1)+(f - (o.toNat)))*8) 140737488355328)) (k0 (((0+(o.toNat))+1)+(f - (o.toNat))) (wrap .i64 (i+1)) q ((List.take (((0+(o.toNat))+1)*1) (((l.take ((o.toNat)*1)).take ((0+(o.toNat))*1))++[(.int .i64 i)]))++((l.drop (0+((o.toNat)*1))).take ((f - (o.toNat))*1)))) none) none) none) none) none))) (r0 f m l))
def C0 (r0:Nat→Int→LA→O R) (g:Int) (b:LA) (c:Nat) (d e:Bool):Nat→Nat→Int→Int→LA→O R
 | 0,_,_,_,_=>none
 | n+1,f,i,m,l=>(G6 N r0 g b c d e (C0 r0 g b c d e n) f i m l)
def Kw (N:Nat) (r0:Nat→Int→LA→O R) (q0:Nat→Int→Int→LA→O R) (g:Int) (b:LA) (c:Nat) (d e:Bool) (p:Int):O R :=
 (q0 0 0 p [])
def Dh:=(Bx (fun (N:Nat) (g:Int) (b:LA) (c:Nat) (d e:Bool) (p:Int) (r0:Nat→Int→LA→O R)=>(Kw N r0 (fun f i m l=>(C0 N r0 g b c d e N f i m l)) g b c d e p))).1
theorem Qj (g b c d e p r0):(@Dh R N g b c d e p r0)=(Kw N r0 (fun f i m l=>(C0 N r0 g b c d e N f i m l)) g b c d e p):=by rw[Dh,(Bx _).2]
def T7:Hints:={ H:=(hS hL (hS hL (hS (hS hL (hS (hP [0,1,5,6] hL) hL)) hL))),nils:=[(4,1),(5,1)],modes:=[(2,1)] }
def V0:MK:=[(24,Sz N)]
def EA (F:KF R):=GP Try.f10 T7 (V0 N) [100000] N F
def Fq (b:LA) (c:Nat) (d e:Bool) (F:KF R):Nat→Int→LA→O R:=(fun r s t=>F (.own 300000 0 r) [(100000,(bN 0 [(.imm b c 1 d e),(iv s)])),(300000,(bQ 1 t))])
def EB (g:Int) (b:LA) (c:Nat) (d e:Bool) (f:Nat) (i m:Int) (l:LA):St:=⟨[(0,(.optr 100000 0)),(1,(iv g)),(5,(.own 300000 0 f)),(6,(iv i))],[(100000,(bN 0 [(.imm b c 1 d e),(iv m)])),(300000,(bQ 1 l))]⟩
def EC (F:KF R):=EA N F [1,1,0,1,0] []
theorem Nk (F:KF R) (g:Int) (b:LA) (c:Nat) (d e:Bool):∀ (n f:Nat) (i m:Int) (l:LA),Ar (EC N F) n (EB g b c d e f i m l)=(C0 N (Fq b c d e F) g b c d e n f i m l)
 | 0,_,_,_,_=>by kernel_rfl
 | n+1,f,i,m,l=>Eq.trans (by kernel_rfl) (He (G6 N (Fq b c d e F) g b c d e · f i m l) (funext fun f=>funext fun i=>funext fun m=>funext fun l=>(Nk F g b c d e n f i m l)):_)
theorem T8 (g:Int) (b:LA) (c:Nat) (d e:Bool) (p:Int) (F:KF R):Xf (V0 N) T7 N 10 [(.optr 100000 0),(iv g)] [(100000,(bN 0 [(.imm b c 1 d e),(iv p)]))] F=(Dh N g b c d e p (Fq b c d e F)):=by
 rw[Qj]
 exact Eq.trans (by kernel_rfl) (He (Kw N (Fq b c d e F) · g b c d e p) (funext fun f=>funext fun i=>funext fun m=>funext fun l=>(Ao ..).trans (Nk N F g b c d e N f i m l)):_)
def Qk (a:LA) (h:Ai) (k:KF R):O R :=
 match a,h with
 | [(.optr 100000 0),(.int .i64 g)],[(100000,⟨false,false,false,false,0,[(.imm b c 1 d e),(.int .i64 p)],false,none,0,0⟩)]=>(Dh N g b c d e p (Fq b c d e k))
 | _,_=>none
theorem T9:C8 N 10 @Qk:=by
 intro R Q a h k j;unfold Qk;split;exact Hi (T8 ..) (T8 ..) ⟨S3 N,trivial⟩;exact Hj
def Lf:=Gz (T9 N)
def Lg:=Xg (T9 N)
def Ek (N:Nat) (k2:Int→O R) (k4:Int→Int→Int→O R) (r0:Bool→O R) (f:LA) (b:Nat) (e:Bool) (c:Nat) (t:Int) (p:LA) (o:Nat) (m i:Int) (d g:LA) (k5:Int→Int→Int→O R) (v u x:Int):O R :=
 (cond ((u != t)==true) (cond ((cond true (decide (u≥0)) false)==true) (cond (cond true (decide (x<((b:Nat):Int))) false) (cond (Af u c) (Ko .i64 (d.drop (0+((u.toNat)*1))) fun aj=>(k5 v aj (wrap .i64 (x+1)))) none) (cond (u != t) (r0 false) (k4 v m (wrap .i64 (i+1))))) (cond (u != t) (r0 false) (k4 v m (wrap .i64 (i+1))))) (cond (u != t) (r0 false) (k4 v m (wrap .i64 (i+1)))))
def Bp (k2:Int→O R) (k4:Int→Int→Int→O R) (r0:Bool→O R) (f:LA) (b:Nat) (e:Bool) (c:Nat) (t:Int) (p:LA) (o:Nat) (m i:Int) (d g:LA):Nat→Int→Int→Int→O R
 | 0,_,_,_=>none
 | n+1,v,u,x=>(Ek N k2 k4 r0 f b e c t p o m i d g (Bp k2 k4 r0 f b e c t p o m i d g n) v u x)
def El (N:Nat) (k2:Int→O R) (r0:Bool→O R) (f:LA) (b:Nat) (e:Bool) (c:Nat) (p:LA) (o:Nat) (d g:LA) (k4:Int→Int→Int→O R) (q5:Int→Int→Int→Int→O R) (s m i:Int):O R :=
 (cond (decide (i<m)) (cond (Af i o) (Ko .i64 (p.drop ((i.toNat)*1)) fun t=>(cond (Af t b) (Ko .i64 (g.drop (0+((t.toNat)*1))) fun ak=>(cond (Af s b) (Ko .i64 (g.drop (0+((s.toNat)*1))) fun al=>(cond (decide (ak<al)) (k4 s m (wrap .i64 (i+1))) (q5 t s s 0))) none)) none)) none) (k2 (wrap .i64 (s+1))))
def Bq (k2:Int→O R) (r0:Bool→O R) (f:LA) (b:Nat) (e:Bool) (c:Nat) (p:LA) (o:Nat) (d g:LA):Nat→Int→Int→Int→O R
 | 0,_,_,_=>none
 | n+1,s,m,i=>(El N k2 r0 f b e c p o d g (Bq k2 r0 f b e c p o d g n) (fun t v u x=>(Bp N k2 (Bq k2 r0 f b e c p o d g n) r0 f b e c t p o m i d g N v u x)) s m i)
def Em (N:Nat) (k2:Int→O R) (r0:Bool→O R) (f:LA) (b:Nat) (e:Bool) (c:Nat) (d g:LA) (q4:LA→Nat→Int→Int→Int→O R) (y:Int):O R :=
 (cond (Af y b) (DA 1 (f.drop ((y.toNat)*1)) fun p o=>(q4 p o y ((o:Nat):Int) 0)) none)
def Cb (k2:Int→O R) (r0:Bool→O R) (f:LA) (b:Nat) (e:Bool) (c:Nat) (d g:LA) (y:Int):O R:=(Em N k2 r0 f b e c d g (fun p o s m i=>(Bq N k2 r0 f b e c p o d g N s m i)) y)
def En (N:Nat) (r0:Bool→O R) (f:LA) (b:Nat) (e:Bool) (c:Nat) (d g:LA) (k2:Int→O R) (q3:Int→O R) (l:Int):O R :=
 (cond (decide (l<((b:Nat):Int))) (cond (Af l c) (Ko .i64 (d.drop (0+((l.toNat)*1))) fun am=>(cond ((decide (am≥((b:Nat):Int)))==false) (cond (Af l c) (Ko .i64 (d.drop (0+((l.toNat)*1))) fun an=>(cond ((decide (an≥0))==true) (cond (Af l c) (Ko .i64 (d.drop (0+((l.toNat)*1))) fun ai=>(cond (Af ai b) (Ko .i64 (g.drop (0+((ai.toNat)*1))) fun ao=>(cond (Af l b) (Ko .i64 (g.drop (0+((l.toNat)*1))) fun ap=>(cond (cond false true (cond true (decide (ao≤ap)) false)) (r0 false) (q3 l))) none)) none)) none) (q3 l))) none) (r0 false))) none) (r0 true))
def Az (r0:Bool→O R) (f:LA) (b:Nat) (e:Bool) (c:Nat) (d g:LA):Nat→Int→O R
 | 0,_=>none
 | n+1,l=>(En N r0 f b e c d g (Az r0 f b e c d g n) (fun y=>(Cb N (Az r0 f b e c d g n) r0 f b e c d g y)) l)
def Eo (N:Nat) (r0:Bool→O R) (f:LA) (b:Nat) (e:Bool) (q c:Nat) (r d:LA) (k1:Int→LA→O R) (q2:Int→O R) (w:Int) (g:LA):O R :=
 (cond (decide (w<((q:Nat):Int))) (cond (Af w q) (Ko .i64 (r.drop (0+((w.toNat)*1))) fun ah=>(cond (Af ah b) (cond ((Nat.beq 1 1)&&((Nat.ble ((0+((ah.toNat)*1))+1) (g.length))&&(!false))) (k1 (wrap .i64 (w+1)) (g.set (0+((ah.toNat)*1)) (.int .i64 w))) none) none)) none) (q2 0))
def Cc (r0:Bool→O R) (f:LA) (b:Nat) (e:Bool) (q c:Nat) (r d:LA):Nat→Int→LA→O R
 | 0,_,_=>none
 | n+1,w,g=>(Eo N r0 f b e q c r d (Cc r0 f b e q c r d n) (fun l=>(Az N r0 f b e c d g N l)) w g)
def Ep (N:Nat) (r0:Bool→O R) (f:LA) (b:Nat) (e:Bool) (q c:Nat) (r d:LA) (q1:Int→LA→O R):O R :=
 (cond ((decide (0≤((b:Nat):Int)))&&((decide (((b:Nat):Int)≤((b:Nat):Int)))&&((decide (((b:Nat):Int)≤140737488355328))&&(decide ((((b:Nat):Int)*((8:Nat):Int))≤140737488355328))))) (q1 0 (List.replicate b (.int .i64 0))) none)
def Br (r0:Bool→O R) (f:LA) (b:Nat) (e:Bool) (q c:Nat) (r d:LA):O R:=(Ep N r0 f b e q c r d (fun w g=>(Cc N r0 f b e q c r d N w g)))
def Dy (r0:Bool→O R) (q0:LA→Nat→Bool→Nat→Nat→LA→LA→O R) (ac:LA) (ad:Nat) (af ae:Bool) (z:LA) (aa:Nat) (ag ab:Bool):O R :=
 (E5 N ac ad false ae (fun f b e=>(Ru N z aa false ab (Dh N ((b:Nat):Int) z aa false ab 0 (fun q av r=>(R3 N f b false e (r.take (q*1)) q false true (fun c aq d=>(Ck N (fun ar=>(cond ((!ar)==false) (cond ((cond false true (aq != 0))==false) (cond (cond false true (((c:Nat):Int) != ((b:Nat):Int))) (r0 false) (q0 f b e q c r d)) (r0 false)) (r0 false)))))))))))
def Cd:=(Bx (fun (N:Nat) (ac:LA) (ad:Nat) (af ae:Bool) (z:LA) (aa:Nat) (ag ab:Bool) (r0:Bool→O R)=>(Dy N r0 (fun f b e q c r d=>(Br N r0 f b e q c r d)) ac ad af ae z aa ag ab))).1
theorem Hm (ac ad af ae z aa ag ab r0):(@Cd R N ac ad af ae z aa ag ab r0)=(Dy N r0 (fun f b e q c r d=>(Br N r0 f b e q c r d)) ac ad af ae z aa ag ab):=by rw[Cd,(Bx _).2]
def Ig:Hints:={ H:=(hS hL (hS hL (hS hL (hS hL (hJ [5,6,7] hL (hS hL (hS (hS hL (hS (hP [5,6,7,9,10] hL) hL)) (hS (hS hL (hS (hP [5,7,9,11] (hS hL (hS (hS (hJ [5,7,9,11] hL (hS hL (hS (hP [5,7,9,11,95,96,97] (hS hL (hS hL (hS (hS (hS hL (hS hL (hS hL (hS (hS hL (hS (hP [5,7,9,11,13,14,15,95,96,97] hL) hL)) hL)))) hL) hL)))) hL))) hL) hL))) hL)) hL)))))))) }
def I6:MK:=[(8,My N),(9,Wp N),(10,Lf N),(11,HG N),(12,M9 N)]
def Bs (F:KF R):=GP Try.f3 Ig (I6 N) [] N F
def Ag (F:KF R):Bool→O R:=(fun au=>F (.bool au) [])
def Ql (f:LA) (b:Nat) (e:Bool) (c:Nat) (t:Int) (p:LA) (o:Nat) (m i:Int) (d g:LA) (v u x:Int):St:=⟨[(5,(.imm f b 1 false e)),(7,(.own 300000 0 c)),(9,(.own 300001 0 b)),(11,(iv v)),(13,(iv t)),(14,(iv u)),(15,(iv x)),(95,(.imm p o 1 false e)),(96,(iv m)),(97,(iv i))],(hq [(bQ 1 d),(bQ 1 g)])⟩
def Qm (F:KF R) (Q2 Q4:St→O R):=Bs N F [1,1,1,1,1,1,1,0,1,0,0,1,0,0,1,1,0,0,1,1,0,0,1,1,1,0,1,0] [Q2,Q4]
def E2 (f:LA) (b:Nat) (e:Bool) (c:Nat) (p:LA) (o:Nat) (d g:LA) (s m i:Int):St:=⟨[(5,(.imm f b 1 false e)),(7,(.own 300000 0 c)),(9,(.own 300001 0 b)),(11,(iv s)),(95,(.imm p o 1 false e)),(96,(iv m)),(97,(iv i))],(hq [(bQ 1 d),(bQ 1 g)])⟩
def Ih (F:KF R) (Q2:St→O R):=Bs N F [1,1,1,1,1,1,1,0,1,0,0,1,0,0,1,1,0] [Q2]
def Qn (f:LA) (b:Nat) (e:Bool) (c:Nat) (d g:LA) (y:Int):St:=⟨[(5,(.imm f b 1 false e)),(7,(.own 300000 0 c)),(9,(.own 300001 0 b)),(11,(iv y))],(hq [(bQ 1 d),(bQ 1 g)])⟩
def Qo (F:KF R) (Q2:St→O R):=Bs N F [1,1,1,1,1,1,1,0,1,0,0,1,0,0,1] [Q2]
def A1 (f:LA) (b:Nat) (e:Bool) (c:Nat) (d g:LA) (l:Int):St:=⟨[(5,(.imm f b 1 false e)),(7,(.own 300000 0 c)),(9,(.own 300001 0 b)),(11,(iv l))],(hq [(bQ 1 d),(bQ 1 g)])⟩
def Ii (F:KF R):=Bs N F [1,1,1,1,1,1,1,0,1,0] []
def Qp (f:LA) (b:Nat) (e:Bool) (q c:Nat) (r d:LA) (w:Int) (g:LA):St:=⟨[(5,(.imm f b 1 false e)),(6,(.own 300000 0 q)),(7,(.own 300001 0 c)),(9,(.own 300002 0 b)),(10,(iv w))],(hq [(bQ 1 r),(bQ 1 d),(bQ 1 g)])⟩
def Qq (F:KF R):=Bs N F [1,1,1,1,1,1,0,1,0] []
def Qs (f:LA) (b:Nat) (e:Bool) (q c:Nat) (r d:LA):St:=⟨[(5,(.imm f b 1 false e)),(6,(.own 300000 0 q)),(7,(.own 300001 0 c))],(hq [(bQ 1 r),(bQ 1 d)])⟩
def Qt (F:KF R):=Bs N F [1,1,1,1,1] []
theorem Gg (Q2 Q4:St→O R) (F:KF R) (f:LA) (b:Nat) (e:Bool) (c:Nat) (t:Int) (p:LA) (o:Nat) (m i:Int) (d g:LA):∀ (n:Nat) (v u x:Int),Ar (Qm N F Q2 Q4) n (Ql f b e c t p o m i d g v u x)=(Bp N (fun l=>Q2 (A1 f b e c d g l)) (fun s m i=>Q4 (E2 f b e c p o d g s m i)) (Ag F) f b e c t p o m i d g n v u x)
 | 0,_,_,_=>by kernel_rfl
 | n+1,v,u,x=>Eq.trans (by kernel_rfl) (He (Ek N (fun l=>Q2 (A1 f b e c d g l)) (fun s m i=>Q4 (E2 f b e c p o d g s m i)) (Ag F) f b e c t p o m i d g · v u x) (funext fun v=>funext fun u=>funext fun x=>(Gg Q2 Q4 F f b e c t p o m i d g n v u x)):_)
theorem Gh (Q2:St→O R) (F:KF R) (f:LA) (b:Nat) (e:Bool) (c:Nat) (p:LA) (o:Nat) (d g:LA):∀ (n:Nat) (s m i:Int),Ar (Ih N F Q2) n (E2 f b e c p o d g s m i)=(Bq N (fun l=>Q2 (A1 f b e c d g l)) (Ag F) f b e c p o d g n s m i)
 | 0,_,_,_=>by kernel_rfl
 | n+1,s,m,i=>have e0:=(funext fun s=>funext fun m=>funext fun i=>(Gh Q2 F f b e c p o d g n s m i))
  Eq.trans (by kernel_rfl) (PH (El N (fun l=>Q2 (A1 f b e c d g l)) (Ag F) f b e c p o d g · · s m i) e0 (funext fun t=>funext fun v=>funext fun u=>funext fun x=>(Ao ..).trans ((Gg N Q2 (Ar (Ih N F Q2) n) F f b e c t p o m i d g N v u x).trans (He (Bp N (fun l=>Q2 (A1 f b e c d g l)) · (Ag F) f b e c t p o m i d g N v u x) e0))):_)
theorem Nl (Q2:St→O R) (F:KF R) (f:LA) (b:Nat) (e:Bool) (c:Nat) (d g:LA):∀ (y:Int),X8 (Qo N F Q2) (Qn f b e c d g y)=(Cb N (fun l=>Q2 (A1 f b e c d g l)) (Ag F) f b e c d g y):=by
 intro y
 exact Eq.trans (by kernel_rfl) (He (Em N (fun l=>Q2 (A1 f b e c d g l)) (Ag F) f b e c d g · y) (funext fun p=>funext fun o=>funext fun s=>funext fun m=>funext fun i=>(Ao ..).trans (Gh N Q2 F f b e c p o d g N s m i)):_)
theorem Gi (F:KF R) (f:LA) (b:Nat) (e:Bool) (c:Nat) (d g:LA):∀ (n:Nat) (l:Int),Ar (Ii N F) n (A1 f b e c d g l)=(Az N (Ag F) f b e c d g n l)
 | 0,_=>by kernel_rfl
 | n+1,l=>have e0:=(funext fun l=>(Gi F f b e c d g n l))
  Eq.trans (by kernel_rfl) (PH (En N (Ag F) f b e c d g · · l) e0 (funext fun y=>(Mh ..).trans ((Nl N (Ar (Ii N F) n) F f b e c d g y).trans (He (Cb N · (Ag F) f b e c d g y) e0))):_)
theorem Gj (F:KF R) (f:LA) (b:Nat) (e:Bool) (q c:Nat) (r d:LA):∀ (n:Nat) (w:Int) (g:LA),Ar (Qq N F) n (Qp f b e q c r d w g)=(Cc N (Ag F) f b e q c r d n w g)
 | 0,_,_=>by kernel_rfl
 | n+1,w,g=>Eq.trans (by kernel_rfl) (PH (Eo N (Ag F) f b e q c r d · · w g) (funext fun w=>funext fun g=>(Gj F f b e q c r d n w g)) (funext fun l=>(Ao ..).trans (Gi N F f b e c d g N l)):_)
theorem Nm (F:KF R) (f:LA) (b:Nat) (e:Bool) (q c:Nat) (r d:LA):X8 (Qt N F) (Qs f b e q c r d)=(Br N (Ag F) f b e q c r d):=by
 exact Eq.trans (by kernel_rfl) (He (Ep N (Ag F) f b e q c r d ·) (funext fun w=>funext fun g=>(Ao ..).trans (Gj N F f b e q c r d N w g)):_)
theorem Ij (ac:LA) (ad:Nat) (af ae:Bool) (z:LA) (aa:Nat) (ag ab:Bool) (F:KF R):Xf (I6 N) Ig N 3 [(.imm ac ad 1 af ae),(.imm z aa 1 ag ab)] [] F=(Cd N ac ad af ae z aa ag ab (Ag F)):=by
 rw[Hm]
 exact Eq.trans (by kernel_rfl) (He (Dy N (Ag F) · ac ad af ae z aa ag ab) (funext fun f=>funext fun b=>funext fun e=>funext fun q=>funext fun c=>funext fun r=>funext fun d=>(Mh ..).trans (Nm N F f b e q c r d)):_)
def Hn (a:LA) (h:Ai) (k:KF R):O R :=
 match a,h with
 | [(.imm ac ad 1 af ae),(.imm z aa 1 ag ab)],[]=>(Cd N ac ad af ae z aa ag ab (Ag k))
 | _,_=>none
theorem Ik:C8 N 3 @Hn:=by
 intro R Q a h k j;unfold Hn;split;exact Hi (Ij ..) (Ij ..) ⟨Mz N,Wq N,Lg N,HH N,Na N,trivial⟩;exact Hj
def Qu:=Gz (Ik N)
def Qv:=Xg (Ik N)
def Dt (k0:Int→Bool→LA→O R) (r0:Bool→O R) (f:LA) (b:Nat) (g:Bool) (c d:Nat) (w:LA) (t:Nat) (i e:LA) (k1:Int→Int→Int→Bool→LA→O R) (p x r:Int) (u:Bool) (s:LA):O R :=
 (cond (decide (r<x)) (cond (Af r t) (Ko .i64 (w.drop ((r.toNat)*1)) fun an=>(cond (Af p d) (Ko .i64 (e.drop (0+((p.toNat)*1))) fun am=>(cond (Af p d) (Ko .i64 (e.drop (0+((p.toNat)*1))) fun ao=>(cond (Af ao b) (DA 1 (s.drop (0+((ao.toNat)*1))) fun ar au=>(cond (Af an d) (Ko .i64 (e.drop (0+((an.toNat)*1))) fun av=>(Ed N ar au false u av (fun aw ax ap=>(cond (Af am b) (cond ((Nat.beq 1 1)&&((Nat.ble ((0+((am.toNat)*1))+1) (s.length))&&(!false))) (k1 p x (wrap .i64 (r+1)) (u||(ap||false)) (s.set (0+((am.toNat)*1)) (.imm aw ax 1 false ap))) none) none)))) none)) none)) none)) none)) none) (k0 (wrap .i64 (p+1)) u s))
def Be (k0:Int→Bool→LA→O R) (r0:Bool→O R) (f:LA) (b:Nat) (g:Bool) (c d:Nat) (w:LA) (t:Nat) (i e:LA):Nat→Int→Int→Int→Bool→LA→O R
 | 0,_,_,_,_,_=>none
 | n+1,p,x,r,u,s=>(Dt N k0 r0 f b g c d w t i e (Be k0 r0 f b g c d w t i e n) p x r u s)
def Du (r0:Bool→O R) (f:LA) (b:Nat) (g:Bool) (c d:Nat) (i e:LA) (m:Bool) (l:LA) (k2:Nat→Int→Int→LA→O R) (q:Nat) (y v:Int) (z:LA):O R :=
 (cond (decide (v<y)) (cond (Af v c) (Ko .i64 (i.drop (0+((v.toNat)*1))) fun aq=>(cond (Af aq d) (Ko .i64 (e.drop (0+((aq.toNat)*1))) fun ay=>(cond ((Nat.ble (q+1) 140737488355328)&&(Nat.ble ((q+1)*8) 140737488355328)) (k2 (q+1) y (wrap .i64 (v+1)) ((z.take (q*1))++[(.int .i64 ay)])) none)) none)) none) (F4 N f b false g (i.take (c*1)) c false true (fun az ba=>(F4 N (l.take (b*1)) b false true (z.take (q*1)) q false true (fun bb bc=>(Ck N (fun bd=>(cond (bd==true) (cond ((cond true (ba==0) false)==true) (cond ((cond true (bc==0) false)==true) (r0 (cond true (az==bb) false)) (r0 false)) (r0 false)) (r0 false)))))))))
def Bf (r0:Bool→O R) (f:LA) (b:Nat) (g:Bool) (c d:Nat) (i e:LA) (m:Bool) (l:LA):Nat→Nat→Int→Int→LA→O R
 | 0,_,_,_,_=>none
 | n+1,q,y,v,z=>(Du N r0 f b g c d i e m l (Bf r0 f b g c d i e m l n) q y v z)
def Dv (N:Nat) (r0:Bool→O R) (f:LA) (b:Nat) (g:Bool) (c d:Nat) (i e:LA) (k0:Int→Bool→LA→O R) (q1:LA→Nat→Int→Int→Int→Bool→LA→O R) (q2:Nat→Int→Int→LA→O R) (o:Int) (m:Bool) (l:LA):O R :=
 (cond (decide (o<((b:Nat):Int))) (cond (Af o b) (DA 1 (f.drop ((o.toNat)*1)) fun w t=>(q1 w t o ((t:Nat):Int) 0 m l)) none) (q2 0 ((c:Nat):Int) 0 []))
def A3 (r0:Bool→O R) (f:LA) (b:Nat) (g:Bool) (c d:Nat) (i e:LA):Nat→Int→Bool→LA→O R
 | 0,_,_,_=>none
 | n+1,o,m,l=>(Dv N r0 f b g c d i e (A3 r0 f b g c d i e n) (fun w t p x r u s=>(Be N (A3 r0 f b g c d i e n) r0 f b g c d w t i e N p x r u s)) (fun q y v z=>(Bf N r0 f b g c d i e m l N q y v z)) o m l)
def Cx (r0:Bool→O R) (q0:LA→Nat→Bool→Nat→Nat→LA→LA→Int→Bool→LA→O R) (ag:LA) (ah:Nat) (aj ai:Bool) (aa:LA) (ab:Nat) (ak ac:Bool) (ad:LA) (ae:Nat) (al af:Bool):O R :=
 (E5 N ag ah false ai (fun f b g=>(Ru N aa ab false ac (Dh N ((b:Nat):Int) aa ab false ac 0 (fun c bf i=>(Ru N ad ae false af (Dh N ((b:Nat):Int) ad ae false af 0 (fun d bg e=>(cond ((decide (0≤((b:Nat):Int)))&&((decide (((b:Nat):Int)≤((b:Nat):Int)))&&((decide (((b:Nat):Int)≤140737488355328))&&(decide ((((b:Nat):Int)*((24:Nat):Int))≤140737488355328))))) (q0 f b g c d i e 0 false (List.replicate b .nsl)) none)))))))))
def B3:=(Bx (fun (N:Nat) (ag:LA) (ah:Nat) (aj ai:Bool) (aa:LA) (ab:Nat) (ak ac:Bool) (ad:LA) (ae:Nat) (al af:Bool) (r0:Bool→O R)=>(Cx N r0 (fun f b g c d i e o m l=>(A3 N r0 f b g c d i e N o m l)) ag ah aj ai aa ab ak ac ad ae al af))).1
theorem Gk (ag ah aj ai aa ab ak ac ad ae al af r0):(@B3 R N ag ah aj ai aa ab ak ac ad ae al af r0)=(Cx N r0 (fun f b g c d i e o m l=>(A3 N r0 f b g c d i e N o m l)) ag ah aj ai aa ab ak ac ad ae al af):=by rw[B3,(Bx _).2]
def Ha:Hints:={ H:=(hS hL (hS hL (hS hL (hS hL (hS (hS hL (hS (hP [7,8,9,10,11] (hS hL (hS (hS (hS hL (hS (hP [7,8,9,10,11,45,46,47] hL) hL)) hL) hL))) hL)) (hS hL (hS (hS hL (hS (hP [7,8,9,10,14,70,71,72] hL) hL)) hL))))))),nils:=[(14,1)] }
def Ho:MK:=[(8,My N),(9,Wp N),(10,Lf N),(13,S8 N),(14,Yb N),(12,M9 N)]
def Dz (F:KF R):=GP Try.f4 Ha (Ho N) [] N F
def As (F:KF R):Bool→O R:=(fun be=>F (.bool be) [])
def Nt (f:LA) (b:Nat) (g:Bool) (c d:Nat) (w:LA) (t:Nat) (i e:LA) (p x r:Int) (u:Bool) (s:LA):St:=⟨[(7,(.imm f b 1 false g)),(8,(.own 300000 0 c)),(9,(.own 300001 0 d)),(10,(.own 300002 0 b)),(11,(iv p)),(45,(.imm w t 1 false g)),(46,(iv x)),(47,(iv r))],(hq [(bQ 1 i),(bQ 1 e),(bP u 1 s)])⟩
def Nu (F:KF R) (Q0:St→O R):=Dz N F [1,1,1,1,0,1,0,0,1,0,0,1,0] [Q0]
def Nv (f:LA) (b:Nat) (g:Bool) (c d:Nat) (i e:LA) (m:Bool) (l:LA) (q:Nat) (y v:Int) (z:LA):St:=⟨[(7,(.imm f b 1 false g)),(8,(.own 300000 0 c)),(9,(.own 300001 0 d)),(10,(.own 300002 0 b)),(14,(.own 300003 0 q)),(70,(.own 300000 0 c)),(71,(iv y)),(72,(iv v))],(hq [(bQ 1 i),(bQ 1 e),(bP m 1 l),(bQ 1 z)])⟩
def Nw (F:KF R):=Dz N F [1,1,1,1,1,1,0,1,0] []
def D1 (f:LA) (b:Nat) (g:Bool) (c d:Nat) (i e:LA) (o:Int) (m:Bool) (l:LA):St:=⟨[(7,(.imm f b 1 false g)),(8,(.own 300000 0 c)),(9,(.own 300001 0 d)),(10,(.own 300002 0 b)),(11,(iv o))],(hq [(bQ 1 i),(bQ 1 e),(bP m 1 l)])⟩
def Hb (F:KF R):=Dz N F [1,1,1,1,0,1,0] []
theorem Fr (Q0:St→O R) (F:KF R) (f:LA) (b:Nat) (g:Bool) (c d:Nat) (w:LA) (t:Nat) (i e:LA):∀ (n:Nat) (p x r:Int) (u:Bool) (s:LA),Ar (Nu N F Q0) n (Nt f b g c d w t i e p x r u s)=(Be N (fun o m l=>Q0 (D1 f b g c d i e o m l)) (As F) f b g c d w t i e n p x r u s)
 | 0,_,_,_,_,_=>by kernel_rfl
 | n+1,p,x,r,u,s=>Eq.trans (by kernel_rfl) (He (Dt N (fun o m l=>Q0 (D1 f b g c d i e o m l)) (As F) f b g c d w t i e · p x r u s) (funext fun p=>funext fun x=>funext fun r=>funext fun u=>funext fun s=>(Fr Q0 F f b g c d w t i e n p x r u s)):_)
theorem Fs (F:KF R) (f:LA) (b:Nat) (g:Bool) (c d:Nat) (i e:LA) (m:Bool) (l:LA):∀ (n q:Nat) (y v:Int) (z:LA),Ar (Nw N F) n (Nv f b g c d i e m l q y v z)=(Bf N (As F) f b g c d i e m l n q y v z)
 | 0,_,_,_,_=>by kernel_rfl
 | n+1,q,y,v,z=>Eq.trans (by kernel_rfl) (He (Du N (As F) f b g c d i e m l · q y v z) (funext fun q=>funext fun y=>funext fun v=>funext fun z=>(Fs F f b g c d i e m l n q y v z)):_)
theorem Ft (F:KF R) (f:LA) (b:Nat) (g:Bool) (c d:Nat) (i e:LA):∀ (n:Nat) (o:Int) (m:Bool) (l:LA),Ar (Hb N F) n (D1 f b g c d i e o m l)=(A3 N (As F) f b g c d i e n o m l)
 | 0,_,_,_=>by kernel_rfl
 | n+1,o,m,l=>have e0:=(funext fun o=>funext fun m=>funext fun l=>(Ft F f b g c d i e n o m l))
  Eq.trans (by kernel_rfl) (bK (Dv N (As F) f b g c d i e · · · o m l) e0 (funext fun w=>funext fun t=>funext fun p=>funext fun x=>funext fun r=>funext fun u=>funext fun s=>(Ao ..).trans ((Fr N (Ar (Hb N F) n) F f b g c d w t i e N p x r u s).trans (He (Be N · (As F) f b g c d w t i e N p x r u s) e0))) (funext fun q=>funext fun y=>funext fun v=>funext fun z=>(Ao ..).trans (Fs N F f b g c d i e m l N q y v z)):_)
theorem Hc (ag:LA) (ah:Nat) (aj ai:Bool) (aa:LA) (ab:Nat) (ak ac:Bool) (ad:LA) (ae:Nat) (al af:Bool) (F:KF R):Xf (Ho N) Ha N 4 [(.imm ag ah 1 aj ai),(.imm aa ab 1 ak ac),(.imm ad ae 1 al af)] [] F=(B3 N ag ah aj ai aa ab ak ac ad ae al af (As F)):=by
 rw[Gk]
 exact Eq.trans (by kernel_rfl) (He (Cx N (As F) · ag ah aj ai aa ab ak ac ad ae al af) (funext fun f=>funext fun b=>funext fun g=>funext fun c=>funext fun d=>funext fun i=>funext fun e=>funext fun o=>funext fun m=>funext fun l=>(Ao ..).trans (Ft N F f b g c d i e N o m l)):_)
def Gl (a:LA) (h:Ai) (k:KF R):O R :=
 match a,h with
 | [(.imm ag ah 1 aj ai),(.imm aa ab 1 ak ac),(.imm ad ae 1 al af)],[]=>(B3 N ag ah aj ai aa ab ak ac ad ae al af (As k))
 | _,_=>none
theorem Hd:C8 N 4 @Gl:=by
 intro R Q a h k j;unfold Gl;split;exact Hi (Hc ..) (Hc ..) ⟨Mz N,Wq N,Lg N,S9 N,Yc N,Na N,trivial⟩;exact Hj
def Nx:=Gz (Hd N)
def Ny:=Xg (Hd N)
def Lh (N:Nat) (r0:Int→O R) (c:LA) (b:Nat) (d e:Bool) (k0:Int→Int→O R) (g f:Int):O R :=
 (cond (decide (f<((b:Nat):Int))) (cond (Af f b) (DA 1 (c.drop ((f.toNat)*1)) fun m i=>(k0 (wrap .i64 (g+((i:Nat):Int))) (wrap .i64 (f+1)))) none) (r0 (wrap .i64 (Int.tdiv g 2))))
def E3 (r0:Int→O R) (c:LA) (b:Nat) (d e:Bool):Nat→Int→Int→O R
 | 0,_,_=>none
 | n+1,g,f=>(Lh N r0 c b d e (E3 r0 c b d e n) g f)
def Ma (N:Nat) (r0:Int→O R) (q0:Int→Int→O R) (c:LA) (b:Nat) (d e:Bool):O R :=
 (q0 0 0)
def Dk:=(Bx (fun (N:Nat) (c:LA) (b:Nat) (d e:Bool) (r0:Int→O R)=>(Ma N r0 (fun g f=>(E3 N r0 c b d e N g f)) c b d e))).1
theorem Ua (c b d e r0):(@Dk R N c b d e r0)=(Ma N r0 (fun g f=>(E3 N r0 c b d e N g f)) c b d e):=by rw[Dk,(Bx _).2]
def V1:Hints:={ H:=(hS hL (hS hL (hS (hS hL (hS (hP [0,3,4] hL) hL)) hL))) }
def HP (F:KF R):=GP Try.f19 V1 [] [] N F
def Gm (F:KF R):Int→O R:=(fun l=>F (iv l) [])
def HQ (c:LA) (b:Nat) (d e:Bool) (g f:Int):St:=⟨[(0,(.imm c b 1 d e)),(3,(iv g)),(4,(iv f))],[]⟩
def HS (F:KF R):=HP N F [1,1,0,1,0] []
theorem Oh (F:KF R) (c:LA) (b:Nat) (d e:Bool):∀ (n:Nat) (g f:Int),Ar (HS N F) n (HQ c b d e g f)=(E3 N (Gm F) c b d e n g f)
 | 0,_,_=>by kernel_rfl
 | n+1,g,f=>Eq.trans (by kernel_rfl) (He (Lh N (Gm F) c b d e · g f) (funext fun g=>funext fun f=>(Oh F c b d e n g f)):_)
theorem V2 (c:LA) (b:Nat) (d e:Bool) (F:KF R):Xf [] V1 N 19 [(.imm c b 1 d e)] [] F=(Dk N c b d e (Gm F)):=by
 rw[Ua]
 exact Eq.trans (by kernel_rfl) (He (Ma N (Gm F) · c b d e) (funext fun g=>funext fun f=>(Ao ..).trans (Oh N F c b d e N g f)):_)
def Ub (a:LA) (h:Ai) (k:KF R):O R :=
 match a,h with
 | [(.imm c b 1 d e)],[]=>(Dk N c b d e (Gm k))
 | _,_=>none
theorem V3:C8 N 19 @Ub:=by
 intro R Q a h k j;unfold Ub;split;exact Hi (V2 ..) (V2 ..) trivial;exact Hj
def V4:=Gz (V3 N)
def V5:=Xg (V3 N)
end
end Gx

namespace Gx
open Go Go.Proofs
open IntKind (wrap)
set_option maxRecDepth 100000
noncomputable section
variable {R:Type} (N:Nat)
def Ka (k0:LA→Nat→Bool→Bool→Int→O R) (r0:Bool→O R) (c:LA) (b:Nat) (d e:Bool) (k1:LA→Nat→Bool→Bool→Int→Int→O R) (p:LA) (q:Nat) (t r:Bool) (s m:Int):O R :=
 (cond (decide (m<((b:Nat):Int))) (cond (Af m q) (DA 1 (p.drop ((m.toNat)*1)) fun z u=>(cond (((u:Nat):Int)==1) (Hl N p q false r m (fun v w aa=>(k1 v w false false s (wrap .i64 (m+1))))) (k1 p q t r s (wrap .i64 (m+1))))) none) (k0 p q t r (wrap .i64 (s+1))))
def C1 (k0:LA→Nat→Bool→Bool→Int→O R) (r0:Bool→O R) (c:LA) (b:Nat) (d e:Bool):Nat→LA→Nat→Bool→Bool→Int→Int→O R
 | 0,_,_,_,_,_,_=>none
 | n+1,p,q,t,r,s,m=>(Ka N k0 r0 c b d e (C1 k0 r0 c b d e n) p q t r s m)
def Kb (r0:Bool→O R) (c:LA) (b:Nat) (d e:Bool) (k0:LA→Nat→Bool→Bool→Int→O R) (q1:LA→Nat→Bool→Bool→Int→Int→O R) (f:LA) (g:Nat) (o i:Bool) (l:Int):O R :=
 (cond (decide (l<((b:Nat):Int))) (q1 f g o i l 0) (Dk N f g false i (fun x=>(r0 (x==0)))))
def C2 (r0:Bool→O R) (c:LA) (b:Nat) (d e:Bool):Nat→LA→Nat→Bool→Bool→Int→O R
 | 0,_,_,_,_,_=>none
 | n+1,f,g,o,i,l=>(Kb N r0 c b d e (C2 r0 c b d e n) (fun p q t r s m=>(C1 N (C2 r0 c b d e n) r0 c b d e N p q t r s m)) f g o i l)
def Kx (N:Nat) (r0:Bool→O R) (q0:LA→Nat→Bool→Bool→Int→O R) (c:LA) (b:Nat) (d e:Bool):O R :=
 (q0 c b d e 0)
def Ei:=(Bx (fun (N:Nat) (c:LA) (b:Nat) (d e:Bool) (r0:Bool→O R)=>(Kx N r0 (fun f g o i l=>(C2 N r0 c b d e N f g o i l)) c b d e))).1
theorem Qw (c b d e r0):(@Ei R N c b d e r0)=(Kx N r0 (fun f g o i l=>(C2 N r0 c b d e N f g o i l)) c b d e):=by rw[Ei,(Bx _).2]
def Uc:Hints:={ H:=(hS hL (hS hL (hS (hS hL (hS (hP [0,3,4] (hS hL (hS (hS (hS hL (hS (hP [0,3,4,5] hL) hL)) hL) hL))) hL)) hL))) }
def V6:MK:=[(19,V4 N),(35,AZ N)]
def Ud (F:KF R):=GP Try.f22 Uc (V6 N) [] N F
def Cl (F:KF R):Bool→O R:=(fun y=>F (.bool y) [])
def ED (c:LA) (b:Nat) (d e:Bool) (p:LA) (q:Nat) (t r:Bool) (s m:Int):St:=⟨[(0,(.imm c b 1 d e)),(3,(.imm p q 1 t r)),(4,(iv s)),(5,(iv m))],[]⟩
def EE (F:KF R) (Q0:St→O R):=Ud N F [1,1,0,1,0,0,1,0,0,1,0] [Q0]
def Li (c:LA) (b:Nat) (d e:Bool) (f:LA) (g:Nat) (o i:Bool) (l:Int):St:=⟨[(0,(.imm c b 1 d e)),(3,(.imm f g 1 o i)),(4,(iv l))],[]⟩
def Ue (F:KF R):=Ud N F [1,1,0,1,0] []
theorem Nn (Q0:St→O R) (F:KF R) (c:LA) (b:Nat) (d e:Bool):∀ (n:Nat) (p:LA) (q:Nat) (t r:Bool) (s m:Int),Ar (EE N F Q0) n (ED c b d e p q t r s m)=(C1 N (fun f g o i l=>Q0 (Li c b d e f g o i l)) (Cl F) c b d e n p q t r s m)
 | 0,_,_,_,_,_,_=>by kernel_rfl
 | n+1,p,q,t,r,s,m=>Eq.trans (by kernel_rfl) (He (Ka N (fun f g o i l=>Q0 (Li c b d e f g o i l)) (Cl F) c b d e · p q t r s m) (funext fun p=>funext fun q=>funext fun t=>funext fun r=>funext fun s=>funext fun m=>(Nn Q0 F c b d e n p q t r s m)):_)
theorem No (F:KF R) (c:LA) (b:Nat) (d e:Bool):∀ (n:Nat) (f:LA) (g:Nat) (o i:Bool) (l:Int),Ar (Ue N F) n (Li c b d e f g o i l)=(C2 N (Cl F) c b d e n f g o i l)
 | 0,_,_,_,_,_=>by kernel_rfl
 | n+1,f,g,o,i,l=>have e0:=(funext fun f=>funext fun g=>funext fun o=>funext fun i=>funext fun l=>(No F c b d e n f g o i l))
  Eq.trans (by kernel_rfl) (PH (Kb N (Cl F) c b d e · · f g o i l) e0 (funext fun p=>funext fun q=>funext fun t=>funext fun r=>funext fun s=>funext fun m=>(Ao ..).trans ((Nn N (Ar (Ue N F) n) F c b d e N p q t r s m).trans (He (C1 N · (Cl F) c b d e N p q t r s m) e0))):_)
theorem Uf (c:LA) (b:Nat) (d e:Bool) (F:KF R):Xf (V6 N) Uc N 22 [(.imm c b 1 d e)] [] F=(Ei N c b d e (Cl F)):=by
 rw[Qw]
 exact Eq.trans (by kernel_rfl) (He (Kx N (Cl F) · c b d e) (funext fun f=>funext fun g=>funext fun o=>funext fun i=>funext fun l=>(Ao ..).trans (No N F c b d e N f g o i l)):_)
def Qx (a:LA) (h:Ai) (k:KF R):O R :=
 match a,h with
 | [(.imm c b 1 d e)],[]=>(Ei N c b d e (Cl k))
 | _,_=>none
theorem Ug:C8 N 22 @Qx:=by
 intro R Q a h k j;unfold Qx;split;exact Hi (Uf ..) (Uf ..) ⟨V5 N,A_ N,trivial⟩;exact Hj
def EF:=Gz (Ug N)
def EG:=Xg (Ug N)
def Fh (r0:Bool→O R) (c:LA) (b:Nat) (d:Bool) (g:Int) (e:Nat) (f:LA) (k1:Int→LA→Nat→Bool→Int→Int→O R) (o:Int) (l:LA) (m:Nat) (p:Bool) (q i:Int):O R :=
 (cond (decide (i<q)) (cond (Af i e) (Ko .i64 (f.drop (0+((i.toNat)*1))) fun z=>(Dk N l m false p (fun ad=>(cond (Af z m) (DA 1 (l.drop ((z.toNat)*1)) fun an ae=>(G0 N l m false p z (fun ab aa ao=>(cond (((aa:Nat):Int) != ((b:Nat):Int)) (r0 false) (Dk N ab aa false false (fun af=>(k1 (wrap .i64 (o+(wrap .i64 (af - (wrap .i64 (ad - ((ae:Nat):Int))))))) ab aa false q (wrap .i64 (i+1))))))))) none)))) none) (Fc N c b false d (fun ac ap ag=>(F4 N c b false d (ag.take (ac*1)) ac false true (fun ah ai=>(cond ((g==o)==true) (cond ((cond true (ai==0) false)==true) (Ei N c b false d (fun aj=>(cond ((!aj)==false) (r0 (cond true (cond false true (ah==0)) false)) (r0 true)))) (r0 false)) (r0 false)))))))
def A7 (r0:Bool→O R) (c:LA) (b:Nat) (d:Bool) (g:Int) (e:Nat) (f:LA):Nat→Int→LA→Nat→Bool→Int→Int→O R
 | 0,_,_,_,_,_,_=>none
 | n+1,o,l,m,p,q,i=>(Fh N r0 c b d g e f (A7 r0 c b d g e f n) o l m p q i)
def Fi (N:Nat) (r0:Bool→O R) (c:LA) (b:Nat) (d:Bool) (e:Nat) (g:Int) (f:LA) (q1:Int→LA→Nat→Bool→Int→Int→O R):O R :=
 (q1 0 c b d ((e:Nat):Int) 0)
def B4 (r0:Bool→O R) (c:LA) (b:Nat) (d:Bool) (e:Nat) (g:Int) (f:LA):O R:=(Fi N r0 c b d e g f (fun o l m p q i=>(A7 N r0 c b d g e f N o l m p q i)))
def Eu (r0:Bool→O R) (q0:LA→Nat→Bool→Nat→Int→LA→O R) (u:LA) (v:Nat) (x w:Bool) (r:LA) (s:Nat) (y t:Bool):O R :=
 (E5 N u v false w (fun c b d=>(Ru N r s false t (Dh N ((b:Nat):Int) r s false t 0 (fun e aq f=>(F4 N c b false d (f.take (e*1)) e false true (fun g ak=>(Ck N (fun al=>(cond ((!al)==false) (cond (cond false true (ak != 0)) (r0 false) (q0 c b d e g f)) (r0 false)))))))))))
def Cu:=(Bx (fun (N:Nat) (u:LA) (v:Nat) (x w:Bool) (r:LA) (s:Nat) (y t:Bool) (r0:Bool→O R)=>(Eu N r0 (fun c b d e g f=>(B4 N r0 c b d e g f)) u v x w r s y t))).1
theorem I7 (u v x w r s y t r0):(@Cu R N u v x w r s y t r0)=(Eu N r0 (fun c b d e g f=>(B4 N r0 c b d e g f)) u v x w r s y t):=by rw[Cu,(Bx _).2]
def Jh:Hints:={ H:=(hS hL (hS hL (hS hL (hS hL (hJ [5,6,7] hL (hS hL (hS hL (hS (hS hL (hS (hP [5,7,9,10,38,39,40] hL) hL)) hL)))))))) }
def K6:MK:=[(8,My N),(9,Wp N),(10,Lf N),(14,Yb N),(12,M9 N),(19,V4 N),(20,DY N),(21,Tk N),(22,EF N)]
def Ji (F:KF R):=GP Try.f6 Jh (K6 N) [] N F
def Bk (F:KF R):Bool→O R:=(fun am=>F (.bool am) [])
def Uj (c:LA) (b:Nat) (d:Bool) (g:Int) (e:Nat) (f:LA) (o:Int) (l:LA) (m:Nat) (p:Bool) (q i:Int):St:=⟨[(5,(.imm c b 1 false d)),(7,(iv g)),(9,(iv o)),(10,(.imm l m 1 false p)),(38,(.own 300000 0 e)),(39,(iv q)),(40,(iv i))],(hq [(bQ 1 f)])⟩
def Uk (F:KF R):=Ji N F [1,1,1,1,1,1,1,0,1,0] []
def Ul (c:LA) (b:Nat) (d:Bool) (e:Nat) (g:Int) (f:LA):St:=⟨[(5,(.imm c b 1 false d)),(6,(.own 300000 0 e)),(7,(iv g))],(hq [(bQ 1 f)])⟩
def Um (F:KF R):=Ji N F [1,1,1,1,1] []
theorem Hp (F:KF R) (c:LA) (b:Nat) (d:Bool) (g:Int) (e:Nat) (f:LA):∀ (n:Nat) (o:Int) (l:LA) (m:Nat) (p:Bool) (q i:Int),Ar (Uk N F) n (Uj c b d g e f o l m p q i)=(A7 N (Bk F) c b d g e f n o l m p q i)
 | 0,_,_,_,_,_,_=>by kernel_rfl
 | n+1,o,l,m,p,q,i=>Eq.trans (by kernel_rfl) (He (Fh N (Bk F) c b d g e f · o l m p q i) (funext fun o=>funext fun l=>funext fun m=>funext fun p=>funext fun q=>funext fun i=>(Hp F c b d g e f n o l m p q i)):_)
theorem O3 (F:KF R) (c:LA) (b:Nat) (d:Bool) (e:Nat) (g:Int) (f:LA):X8 (Um N F) (Ul c b d e g f)=(B4 N (Bk F) c b d e g f):=by
 exact Eq.trans (by kernel_rfl) (He (Fi N (Bk F) c b d e g f ·) (funext fun o=>funext fun l=>funext fun m=>funext fun p=>funext fun q=>funext fun i=>(Ao ..).trans (Hp N F c b d g e f N o l m p q i)):_)
theorem Jj (u:LA) (v:Nat) (x w:Bool) (r:LA) (s:Nat) (y t:Bool) (F:KF R):Xf (K6 N) Jh N 6 [(.imm u v 1 x w),(.imm r s 1 y t)] [] F=(Cu N u v x w r s y t (Bk F)):=by
 rw[I7]
 exact Eq.trans (by kernel_rfl) (He (Eu N (Bk F) · u v x w r s y t) (funext fun c=>funext fun b=>funext fun d=>funext fun e=>funext fun g=>funext fun f=>(Mh ..).trans (O3 N F c b d e g f)):_)
def I8 (a:LA) (h:Ai) (k:KF R):O R :=
 match a,h with
 | [(.imm u v 1 x w),(.imm r s 1 y t)],[]=>(Cu N u v x w r s y t (Bk k))
 | _,_=>none
theorem Jk:C8 N 6 @I8:=by
 intro R Q a h k j;unfold I8;split;exact Hi (Jj ..) (Jj ..) ⟨Mz N,Wq N,Lg N,Yc N,Na N,V5 N,DZ N,Tl N,EG N,trivial⟩;exact Hj
def Un:=Gz (Jk N)
def Uo:=Xg (Jk N)
end
end Gx

namespace Gx
open Go
open IntKind (wrap)
section
variable {R:Type}
theorem MX {n:Int} (h1:-9223372036854775808≤n) (h2:n≤9223372036854775807):wrap .i64 n=n:=by
 rw[IntKind.wrap_i64];omega
theorem wS {j:Nat} (h:j<4611686018427387904):wrap .i64 ((j:Int)+1)=((j+1:Nat):Int):=by rw[MX (by omega) (by omega)];omega
theorem A8 {j n:Nat} (h:j<n):Af (j:Int) n=true:=by simp[Af];omega
theorem Kc {a b:Int} (h:a<b):decide (a<b)=true:=by simpa using h
theorem Ja {a b:Int} (h:¬ a<b):decide (a<b)=false:=by simpa using h
theorem Ci (l:List Int):(Ab l).length=l.length:=by simp[Ab]
theorem US (l:List Int) (i:Nat) (x:Int):(Ab l).set i (.int .i64 x)=Ab (l.set i x):=by simp[Ab,List.map_set]
theorem UT {l:List Int} {i:Nat} {x:Int} (h:l[i]?=some x):(Ab l)[i]?=some (.int .i64 x):=by simp[Ab,h]
theorem WN {l:List Int} {i:Nat} {x:Int} (h:l[i]?=some x) (K:Int→O R):Ko .i64 ((Ab l).drop i) K=K x:=by
 unfold Ko
 rw[List.head?_drop,UT h]
 simp[asInt,In]
theorem YJ {l:List Int} {i:Int} {x:Int} (h:l[i.toNat]?=some x) (K:Int→O R):Ko .i64 ((Ab l).drop (0+i.toNat*1)) K=K x:=by rw[Nat.mul_one,Nat.zero_add];exact WN h K
def GR (c:LA) (rows:List (List Int)):Prop:=c.length=rows.length∧∀ (i:Nat) (r:List Int),rows[i]?=some r→∃ x,c[i]?=some x∧Qz 1 x=some (Ab r,r.length)
theorem aB {c:LA} {rows:List (List Int)} (h:GR c rows) {i:Nat} {r:List Int} (hi:rows[i]?=some r) (K:LA→Nat→O R):DA 1 (c.drop i) K=K (Ab r) r.length:=by
 obtain⟨x,h1,h2⟩:=h.2 i r hi
 unfold DA
 rw[List.head?_drop,h1]
 simp[h2]
def SA (S:List (List Int)):LA:=S.map fun l=>Bo (Ab l) 0 0
theorem WO (S:List (List Int)):(SA S).length=S.length:=by simp[SA]
theorem HT (S:List (List Int)) (i:Nat) (l:List Int):(SA S).set i (Bo (Ab l) 0 0)=SA (S.set i l):=by simp[SA,List.map_set]
theorem Sb {S:List (List Int)} {i:Nat} {l:List Int} (h:S[i]?=some l) (K:LA→O R):RP ((SA S).drop i) K=K (Ab l):=by
 unfold RP
 rw[List.head?_drop]
 simp[SA,h,Pa,Bo]
theorem TI {c:LA} {i:Nat} {l:LA} (h:i<c.length) (K:LA→O R):bJ ((c.set i (Bo l 1 0)).drop i) K=K l:=by
 unfold bJ
 rw[List.head?_drop,List.getElem?_set_self h]
 simp[LG,Bo]
def UU (l:List Int) (x:Int):List Int:=if x ∈ l then l else l++[x]
theorem WP (l:List Int) (x:Int):Ww (Ab l) x=decide (x ∈ l):=by
 have:=Jt l x
 unfold Ab
 by_cases h:x ∈ l
 ·rw[this.2 h];simp[h]
 ·simp[h]
  cases hb:Ww (l.map fun m=>.int .i64 m) x with
  | false=>rfl
  | true=>exact absurd (this.1 hb) h
theorem SB (l:List Int) (x:Int):Q9 (Ab l) x=Ab (UU l x):=by
 unfold Q9 UU
 rw[WP]
 by_cases h:x ∈ l
 ·simp[h]
 ·simp[h,Ab]
theorem WQ (l:List Int) (x:Int):EW (Ab l) x=Ab (l.erase x):=Wl l x
def Sets (n:Nat) (Q:Nat→Nat→Prop) (S:List (List Int)):Prop:=S.length=n∧∀ (i:Nat) (l:List Int),S[i]?=some l→l.Nodup∧∀ x,x ∈ l↔∃ j:Nat,x=(j:Int)∧j<n∧Q i j
theorem Sets.congr {n:Nat} {Q Q':Nat→Nat→Prop} {S:List (List Int)} (h:Sets n Q S) (he:∀ i j,i<n→j<n→(Q' i j↔Q i j)):Sets n Q' S:=by
 refine⟨h.1,fun i l hl=>?_⟩
 have hi:i<n:=by rw[←h.1];exact(List.getElem?_eq_some_iff.1 hl).1
 obtain⟨h1,h2⟩:=h.2 i l hl
 refine⟨h1,fun x=>?_⟩
 rw[h2]
 constructor
 ·rintro⟨j,rfl,hj,hq⟩;exact⟨j,rfl,hj,(he i j hi hj).2 hq⟩
 ·rintro⟨j,rfl,hj,hq⟩;exact⟨j,rfl,hj,(he i j hi hj).1 hq⟩
theorem Sets.get {n:Nat} {Q:Nat→Nat→Prop} {S:List (List Int)} (h:Sets n Q S) {i:Nat} (hi:i<n):∃ l,S[i]?=some l:=⟨_,List.getElem?_eq_getElem (by rw[h.1];exact hi)⟩
theorem Sets.mem {n:Nat} {Q:Nat→Nat→Prop} {S:List (List Int)} (h:Sets n Q S) {i j:Nat} {l:List Int} (hl:S[i]?=some l) (hj:j<n):(j:Int) ∈ l↔Q i j:=by
 rw[(h.2 i l hl).2]
 constructor
 ·rintro⟨k,hk,_,hq⟩;have:k=j:=by omega
  subst this;exact hq
 ·intro hq;exact⟨j,rfl,hj,hq⟩
theorem Sets.add {n:Nat} {Q:Nat→Nat→Prop} {S:List (List Int)} (h:Sets n Q S) {w x:Nat} {l:List Int} (hl:S[w]?=some l) (hx:x<n):Sets n (fun i j=>Q i j∨(i=w∧j=x)) (S.set w (UU l (x:Int))):=by
 have hw:=(List.getElem?_eq_some_iff.1 hl).1
 refine⟨by rw[List.length_set];exact h.1,fun i m hm=>?_⟩
 by_cases e:i=w
 ·subst e
  rw[List.getElem?_set_self hw] at hm;simp at hm;subst hm
  obtain⟨h1,h2⟩:=h.2 i l hl
  unfold UU
  split
  ·rename_i hin
   refine⟨h1,fun y=>?_⟩
   rw[h2]
   constructor
   ·rintro⟨j,rfl,hj,hq⟩;exact⟨j,rfl,hj,.inl hq⟩
   ·rintro⟨j,rfl,hj,hq | ⟨_,rfl⟩⟩
    ·exact⟨j,rfl,hj,hq⟩
    ·exact(h2 _).1 hin
  ·rename_i hin
   refine⟨List.nodup_append.2 ⟨h1,by simp,fun a ha b hb=>by simp at hb;subst hb;exact fun e=>hin (e▸ha)⟩,fun y=>?_⟩
   rw[List.mem_append,h2,List.mem_singleton]
   constructor
   ·rintro(⟨j,rfl,hj,hq⟩ | rfl)
    ·exact⟨j,rfl,hj,.inl hq⟩
    ·exact⟨x,rfl,hx,.inr ⟨rfl,rfl⟩⟩
   ·rintro⟨j,rfl,hj,hq | ⟨_,rfl⟩⟩
    ·exact .inl ⟨j,rfl,hj,hq⟩
    ·exact .inr rfl
 ·rw[List.getElem?_set_ne (Ne.symm e)] at hm
  obtain⟨h1,h2⟩:=h.2 i m hm
  refine⟨h1,fun y=>?_⟩
  rw[h2]
  constructor
  ·rintro⟨j,rfl,hj,hq⟩;exact⟨j,rfl,hj,.inl hq⟩
  ·rintro⟨j,rfl,hj,hq | ⟨e2,_⟩⟩
   ·exact⟨j,rfl,hj,hq⟩
   ·exact absurd e2 e
theorem Sets.del {n:Nat} {Q:Nat→Nat→Prop} {S:List (List Int)} (h:Sets n Q S) {w x:Nat} {l:List Int} (hl:S[w]?=some l):Sets n (fun i j=>Q i j∧¬ (i=w∧j=x)) (S.set w (l.erase (x:Int))):=by
 have hw:=(List.getElem?_eq_some_iff.1 hl).1
 refine⟨by rw[List.length_set];exact h.1,fun i m hm=>?_⟩
 by_cases e:i=w
 ·subst e
  rw[List.getElem?_set_self hw] at hm;simp at hm;subst hm
  obtain⟨h1,h2⟩:=h.2 i l hl
  refine⟨h1.erase _,fun y=>?_⟩
  rw[h1.mem_erase_iff,h2]
  constructor
  ·rintro⟨hy,j,rfl,hj,hq⟩;exact⟨j,rfl,hj,hq,fun ⟨_,e⟩=>hy (by rw[e])⟩
  ·rintro⟨j,rfl,hj,hq,hne⟩;exact⟨fun e=>hne ⟨rfl,by omega⟩,j,rfl,hj,hq⟩
 ·rw[List.getElem?_set_ne (Ne.symm e)] at hm
  obtain⟨h1,h2⟩:=h.2 i m hm
  refine⟨h1,fun y=>?_⟩
  rw[h2]
  constructor
  ·rintro⟨j,rfl,hj,hq⟩;exact⟨j,rfl,hj,hq,fun ⟨e2,_⟩=>e e2⟩
  ·rintro⟨j,rfl,hj,hq,_⟩;exact⟨j,rfl,hj,hq⟩
def A6 (n:Nat) (A:Nat→Nat→Bool) (v:Nat):List Nat:=(List.range n).filter (A v)
def Ap (l:List Nat):List Int:=l.map fun (x:Nat)=>(x:Int)
theorem Bn {n:Nat} {A:Nat→Nat→Bool} {v x:Nat}:x ∈ A6 n A v↔x<n∧A v x=true:=by simp[A6]
theorem SC (n:Nat) (A:Nat→Nat→Bool) (v:Nat):(Ap (A6 n A v)).Pairwise (·≤·):=by
 unfold Ap A6
 rw[List.pairwise_map]
 exact(List.pairwise_lt_range.sublist List.filter_sublist).imp (fun h=>by omega)
theorem Wt (n:Nat) (A:Nat→Nat→Bool) (v:Nat):(A6 n A v).Nodup:=List.nodup_range.sublist List.filter_sublist
theorem Sets.sort {n:Nat} {A:Nat→Nat→Bool} {S:List (List Int)} (h:Sets n (fun i j=>A i j=true) S) {v:Nat} {l:List Int} (hl:S[v]?=some l):Xn l=Ap (A6 n A v)∧l.length=(A6 n A v).length:=by
 obtain⟨h1,h2⟩:=h.2 v l hl
 have hnd:(Ap (A6 n A v)).Nodup:=by
  unfold Ap
  exact List.Pairwise.map _ (fun a b hab e=>hab (by omega)) (Wt n A v)
 have hp:l.Perm (Ap (A6 n A v)):=(List.perm_ext_iff_of_nodup h1 hnd).2 (fun x=>by
  rw[h2]
  unfold Ap
  rw[List.mem_map]
  constructor
  ·rintro⟨j,rfl,hj,hq⟩;exact⟨j,Bn.2 ⟨hj,hq⟩,rfl⟩
  ·rintro⟨j,hj,rfl⟩;exact⟨j,rfl,(Bn.1 hj).1,(Bn.1 hj).2⟩)
 refine⟨?_,by rw[hp.length_eq];simp[Ap]⟩
 have h3:(Xn l).Perm (Ap (A6 n A v)):=(Rz l).trans hp
 exact List.Perm.eq_of_pairwise (le:=fun a b:Int=>a≤b) (fun a b _ _ h3 h4=>by omega) (R2 l) (SC n A v) h3
end
end Gx

namespace Gx
open Go
open IntKind (wrap)
section
variable {R:Type}
theorem HU {l:List Nat} {i x:Nat} (h:l[i]?=some x):(Ap l)[i]?=some (x:Int):=by simp[Ap,h]
theorem A2 (l:List Nat):(Ap l).length=l.length:=by simp[Ap]
theorem Cv {α:Type} {l:List α} {i:Nat} {x:α} (h:l[i]?=some x):l.take (i+1)=l.take i++[x]:=by rw[List.take_add_one,h];rfl
def V7 (Q:Nat→Nat→Prop) (w:Nat) (P:List Nat) (i j:Nat):Prop:=Q i j∨(i=w∧j ∈ P)∨(j=w∧i ∈ P)
theorem HV {N n w k:Nat} {c g:Int} {d:Nat} {nb:List Nat} {Q:Nat→Nat→Prop} {f:Nat→Bool} {k0:Int→Int→Int→LA→O R} {r0:Nat→Int→LA→LA→O R} {Y:O R}
  (hn:n≤1000) (hw:w<n) (hk:nb[k]?=some w) (hnb:∀ x ∈ nb,x<n) (hnd:nb.Nodup) (hl:nb.length≤1000) (hf:∀ x,x ∈ nb.take k→(Q w x↔f x=false)) (hs:∀ x,x ∈ nb.take k→Q w x→Q x w) :
  ∀ (fuel p:Nat) (q:Int) (S:List (List Int)),Sets n (V7 Q w (nb.take p)) S→p≤k→k - p<fuel→0≤q→q+(k:Int) - p≤1000000000000 →
   (∀ S',Sets n (V7 Q w (nb.take k)) S'→k0 (q+(((nb.take k).drop p).countP f:Nat)) g ((k+1:Nat):Int) (SA S')=Y) →
   Ca N k0 r0 n c d (w:Int) g (Ab (Ap nb)) fuel q (k:Int) k (k:Int) (p:Int) (SA S)=Y
 | 0,p,q,S,_,_,h,_,_,_=>by omega
 | fuel+1,p,q,S,hS,hp,hfu,hq0,hq,hK=>by
  rw[Ca,Fz]
  have hkl:=(List.getElem?_eq_some_iff.1 hk).1
  by_cases hlt:p<k
  ·obtain⟨x,hx⟩:∃ x,nb[p]?=some x:=⟨_,List.getElem?_eq_getElem (by omega)⟩
   have hxn:=hnb x (List.mem_of_getElem? hx)
   have hxk:x ∈ nb.take k:=List.mem_of_getElem? (i:=p) (by rw[List.getElem?_take_of_lt hlt];exact hx)
   have hxw:x≠w:=fun e=>by
    subst e
    obtain⟨h1,h2⟩:=List.getElem?_eq_some_iff.1 hx
    obtain⟨h3,h4⟩:=List.getElem?_eq_some_iff.1 hk
    have:=(List.getElem_inj hnd).1 (h2.trans h4.symm)
    omega
   have hxp:x ∉ nb.take p:=fun hm=>by
    obtain⟨j,hj⟩:=List.getElem?_of_mem hm
    rw[List.getElem?_take] at hj
    split at hj
    ·obtain⟨h1,h2⟩:=List.getElem?_eq_some_iff.1 hx
     obtain⟨h3,h4⟩:=List.getElem?_eq_some_iff.1 hj
     have:=(List.getElem_inj hnd).1 (h4.trans h2.symm)
     omega
    ·cases hj
   have hdrop:(nb.take k).drop p=x::(nb.take k).drop (p+1):=by
    rw[List.drop_eq_getElem_cons (by simp;omega)]
    congr 1
    obtain⟨h1,h2⟩:=List.getElem?_eq_some_iff.1 hx
    simp[h2]
   obtain⟨lw,hlw⟩:=hS.get hw
   have hlwl:=(List.getElem?_eq_some_iff.1 hlw).1
   rw[Kc (by omega),cond_true,A8 (by omega:p<k),cond_true,YJ (i:=(p:Int)) (by simpa using HU hx),A8 hw,cond_true]
   simp only[Int.toNat_natCast]
   rw[Sb hlw,WP,wS (by omega)]
   have hmem:(x:Int) ∈ lw↔V7 Q w (nb.take p) w x:=hS.mem hlw hxn
   have hmem2:(x:Int) ∈ lw↔f x=false:=by
    rw[hmem]
    unfold V7
    constructor
    ·rintro(h | ⟨_,h⟩ | ⟨h,_⟩)
     ·exact(hf x hxk).1 h
     ·exact absurd h hxp
     ·exact absurd h hxw
    ·intro h;exact .inl ((hf x hxk).2 h)
   by_cases hin:(x:Int) ∈ lw
   ·have hfx:=hmem2.1 hin
    simp only[hin,decide_true,Bool.not_true,cond_false]
    refine HV hn hw hk hnb hnd hl hf hs fuel (p+1) q S (hS.congr fun i j hi hj=>?_) (by omega) (by omega) hq0 (by omega) (fun S' hS'=>?_)
    ·rw[Cv hx]
     have h0:=hmem.1 hin
     have h5:Q w x:=(hf x hxk).2 hfx
     unfold V7 at h0 ⊢
     constructor
     ·rintro(h | ⟨rfl,h⟩ | ⟨rfl,h⟩)
      ·exact .inl h
      ·rcases List.mem_append.1 h with h | h
       ·exact .inr (.inl ⟨rfl,h⟩)
       ·simp at h;subst h;exact .inl h5
      ·rcases List.mem_append.1 h with h | h
       ·exact .inr (.inr ⟨rfl,h⟩)
       ·simp at h;subst h
        exact .inl (hs _ hxk h5)
     ·rintro(h | ⟨rfl,h⟩ | ⟨rfl,h⟩)
      ·exact .inl h
      ·exact .inr (.inl ⟨rfl,by simp[h]⟩)
      ·exact .inr (.inr ⟨rfl,by simp[h]⟩)
    ·have:=hK S' hS'
     rw[hdrop,List.countP_cons,hfx] at this
     simpa using this
   ·have hfx:f x=true:=by cases h:f x with | true=>rfl | false=>exact absurd (hmem2.2 h) hin
    simp only[hin,decide_false,Bool.not_false,cond_true]
    have S1:=hS.add hlw hxn
    rw[A8 hxn,cond_true,Sb hlw]
    simp only[Nat.beq_refl,cond_true]
    rw[TI (by rw[WO];exact hlwl),SB]
    obtain⟨lx,hlx⟩:=S1.get hxn
    rw[List.set_set,HT,Sb hlx,TI (by rw[WO];rw[S1.1];exact hxn),SB,List.set_set,HT,MX (by omega) (by omega)]
    have S2:=S1.add hlx hw
    refine HV hn hw hk hnb hnd hl hf hs fuel (p+1) (q+1) _ (S2.congr fun i j hi hj=>?_) (by omega) (by omega) (by omega) (by omega) (fun S' hS'=>?_)
    ·rw[Cv hx]
     unfold V7
     simp only[List.mem_append,List.mem_singleton]
     constructor
     ·rintro(h | ⟨rfl,h | rfl⟩ | ⟨rfl,h | rfl⟩)
      ·exact .inl (.inl (.inl h))
      ·exact .inl (.inl (.inr (.inl ⟨rfl,h⟩)))
      ·exact .inl (.inr ⟨rfl,rfl⟩)
      ·exact .inl (.inl (.inr (.inr ⟨rfl,h⟩)))
      ·exact .inr ⟨rfl,rfl⟩
     ·rintro(((h | ⟨rfl,h⟩ | ⟨rfl,h⟩) | ⟨rfl,rfl⟩) | ⟨rfl,rfl⟩)
      ·exact .inl h
      ·exact .inr (.inl ⟨rfl,.inl h⟩)
      ·exact .inr (.inr ⟨rfl,.inl h⟩)
      ·exact .inr (.inl ⟨rfl,.inr rfl⟩)
      ·exact .inr (.inr ⟨rfl,.inr rfl⟩)
    ·have:=hK S' hS'
     rw[hdrop,List.countP_cons,hfx] at this
     rw[←this]
     congr 1
     simp;omega
  ·have:p=k:=by omega
   subst this
   rw[Ja (by omega),cond_false,wS (by omega)]
   have:=hK S hS
   simpa using this
end
end Gx

namespace Gx
open Go
open IntKind (wrap)
section
variable {R:Type}
structure Gr (A:Nat→Nat→Bool):Prop where
 sym:∀ i j,A i j=A j i
 irr:∀ i,A i i=false
def Bt (A:Nat→Nat→Bool) (v:Nat):Nat→Nat→Bool:=fun i j=>(i != v&&j != v)&&(A i j||(i != j&&(A v i&&A v j)))
theorem K7 {A:Nat→Nat→Bool} (h:Gr A) (v:Nat):Gr (Bt A v):=by
 refine⟨fun i j=>?_,fun i=>?_⟩
 ·unfold Bt
  rw[h.sym i j,Bool.and_comm (i != v),Bool.and_comm (A v i)]
  congr 2
  rw[bne_comm]
 ·unfold Bt;simp[h.irr]
def D2 (A:Nat→Nat→Bool):List Nat→List Nat→Nat
 | _,[]=>0
 | pre,w::r=>pre.countP (fun x=>!A w x)+D2 A (pre++[w]) r
def HW (A:Nat→Nat→Bool) (v:Nat) (P:List Nat) (i j:Nat):Prop:=(A i j=true∨(i≠j∧i ∈ P∧j ∈ P))∧¬ ((i=v∧j ∈ P)∨(j=v∧i ∈ P))
theorem PQ {N n v:Nat} {A:Nat→Nat→Bool} {r0:Nat→Int→LA→LA→O R} {Y:O R} (hA:Gr A) (hn:n≤1000) (hN:2000≤N) (hv:v<n) :
  ∀ (fuel k:Nat) (o:Int) (S:List (List Int)),Sets n (HW A v ((A6 n A v).take k)) S→k≤(A6 n A v).length→(A6 n A v).length - k<fuel→0≤o→o≤1000*k →
   (∀ S',Sets n (fun i j=>Bt A v i j=true) S'→r0 (A6 n A v).length (o+(D2 A ((A6 n A v).take k) ((A6 n A v).drop k):Nat)) (SA S') (Ab (Ap (A6 n A v)))=Y) →
   Bc N r0 n (v:Int) (A6 n A v).length (Ab (Ap (A6 n A v))) fuel o ((A6 n A v).length:Int) (k:Int) (SA S)=Y
 | 0,k,o,S,_,_,h,_,_,_=>by omega
 | fuel+1,k,o,S,hS,hk,hfu,ho0,ho,hK=>by
  have hnb:∀ x ∈ A6 n A v,x<n:=fun x hx=>(Bn.1 hx).1
  have hnd:=Wt n A v
  have hlen:(A6 n A v).length≤n:=by unfold A6;exact Nat.le_trans (List.length_filter_le _ _) (by simp)
  rw[Bc,F0]
  by_cases hlt:k<(A6 n A v).length
  ·obtain⟨w,hw⟩:∃ w,(A6 n A v)[k]?=some w:=⟨_,List.getElem?_eq_getElem hlt⟩
   have hwm:=List.mem_of_getElem? hw
   have hwn:=hnb w hwm
   have hAw:=(Bn.1 hwm).2
   have hwv:w≠v:=fun e=>by subst e;rw[hA.irr] at hAw;cases hAw
   have hwk:w ∉ (A6 n A v).take k:=fun hm=>by
    obtain⟨j,hj⟩:=List.getElem?_of_mem hm
    rw[List.getElem?_take] at hj
    split at hj
    ·obtain⟨h1,h2⟩:=List.getElem?_eq_some_iff.1 hw
     obtain⟨h3,h4⟩:=List.getElem?_eq_some_iff.1 hj
     have:=(List.getElem_inj hnd).1 (h4.trans h2.symm)
     omega
    ·cases hj
   have hvk:∀ m,v ∉ (A6 n A v).take m:=fun m hm=>by
    have:=(Bn.1 (List.mem_of_mem_take hm)).2
    rw[hA.irr] at this;cases this
   obtain⟨lw,hlw⟩:=hS.get hwn
   have S1:=hS.del (x:=v) hlw
   obtain⟨lv,hlv⟩:=S1.get hv
   have S2:=S1.del (x:=w) hlv
   rw[Kc (by omega),cond_true,A8 hlt,cond_true,YJ (i:=(k:Int)) (by simpa using HU hw),A8 hwn,cond_true]
   simp only[Int.toNat_natCast]
   rw[Sb hlw,WQ,A8 hv,cond_true,HT,Sb hlv,WQ,HT]
   have hb:(decide ((0:Int)≤0)&&(decide ((0:Int)≤(k:Int))&&(decide ((k:Int)≤(((A6 n A v).length:Nat):Int))&&decide ((((A6 n A v).length:Nat):Int)≤(((A6 n A v).length:Nat):Int)))))=true:=by simp;omega
   rw[hb,cond_true]
   have inner:=HV (R:=R) (N:=N) (n:=n) (w:=w) (k:=k) (c:=(v:Int)) (g:=((A6 n A v).length:Int)) (d:=(A6 n A v).length) (nb:=A6 n A v)
    (Q:=fun i j=>(HW A v ((A6 n A v).take k) i j∧¬ (i=w∧j=v))∧¬ (i=v∧j=w)) (f:=fun x=>!A w x)
    (k0:=Bc N r0 n (v:Int) (A6 n A v).length (Ab (Ap (A6 n A v))) fuel) (r0:=r0) (Y:=Y) hn hwn hw hnb hnd (by omega)
    (fun x hx=>by
     have hxv:x≠v:=fun e=>by subst e;exact hvk k hx
     unfold HW
     simp only[Bool.not_eq_false',hwk,hxv,hwv,false_and,and_false,or_false,not_false_eq_true,and_true])
    (fun x hx h=>by
     have hxv:x≠v:=fun e=>by subst e;exact hvk k hx
     have hxw:x≠w:=fun e=>by subst e;exact hwk hx
     unfold HW at h ⊢
     simp only[hwk,hxv,hwv,false_and,and_false,or_false,not_false_eq_true,and_true] at h ⊢
     rw[hA.sym];exact h)
   have e0:((k:Nat):Int)=((((k:Nat):Int).toNat:Nat):Int):=by simp
   refine inner N 0 o _ (S2.congr fun i j hi hj=>?_) (Nat.zero_le _) (by omega) ho0 (by omega) (fun S' hS'=>?_)
   ·unfold V7;simp
   ·have h9:(1000:Int)*((k+1:Nat):Int)=1000*k+1000:=by omega
    have h10:(((A6 n A v).take k).countP (fun x=>!A w x))≤1000:=Nat.le_trans List.countP_le_length (by simp;omega)
    refine PQ hA hn hN hv fuel (k+1) _ S' (hS'.congr fun i j hi hj=>?_) (by omega) (by omega) (by simp;omega) (by simp;omega) (fun S'' hS''=>?_)
    ·rw[Cv hw]
     unfold V7 HW
     simp only[List.mem_append,List.mem_singleton]
     constructor
     ·rintro⟨h1,h2⟩
      simp only[not_or,not_and] at h2
      by_cases hiw:i=w
      ·subst hiw
       by_cases hjk:j ∈ (A6 n A v).take k
       ·exact .inr (.inl ⟨rfl,hjk⟩)
       ·left
        have hjv:j≠v:=fun e=>by have:=(h2.2 e);simp at this
        refine⟨⟨⟨?_,?_⟩,fun h=>hjv h.2⟩,fun h=>hwv h.1⟩
        ·rcases h1 with h1 | ⟨h3,_,h5 | h5⟩
         ·exact .inl h1
         ·exact absurd h5 hjk
         ·exact absurd h5.symm h3
        ·rintro(⟨h3,_⟩ | ⟨h3,_⟩)
         ·exact hwv h3
         ·exact hjv h3
      ·by_cases hjw:j=w
       ·subst hjw
        by_cases hik:i ∈ (A6 n A v).take k
        ·exact .inr (.inr ⟨rfl,hik⟩)
        ·left
         have hiv:i≠v:=fun e=>by have:=(h2.1 e);simp at this
         refine⟨⟨⟨?_,?_⟩,fun h=>hwv h.2⟩,fun h=>hiv h.1⟩
         ·rcases h1 with h1 | ⟨h3,h4 | h4,_⟩
          ·exact .inl h1
          ·exact absurd h4 hik
          ·exact absurd h4 h3
         ·rintro(⟨h3,_⟩ | ⟨h3,_⟩)
          ·exact hiv h3
          ·exact hwv h3
       ·left
        refine⟨⟨⟨?_,?_⟩,fun h=>hiw h.1⟩,fun h=>hjw h.2⟩
        ·rcases h1 with h1 | ⟨h3,h4 | h4,h5 | h5⟩
         ·exact .inl h1
         ·exact .inr ⟨h3,h4,h5⟩
         ·exact absurd h5 hjw
         ·exact absurd h4 hiw
         ·exact absurd h4 hiw
        ·rintro(⟨h3,h4⟩ | ⟨h3,h4⟩)
         ·exact(h2.1 h3).1 h4
         ·exact(h2.2 h3).1 h4
     ·rintro(⟨⟨⟨h1,h2⟩,h3⟩,h4⟩ | ⟨rfl,h5⟩ | ⟨rfl,h5⟩)
      ·refine⟨?_,?_⟩
       ·rcases h1 with h1 | ⟨h5,h6,h7⟩
        ·exact .inl h1
        ·exact .inr ⟨h5,.inl h6,.inl h7⟩
       ·rintro(⟨h5,h6 | h6⟩ | ⟨h5,h6 | h6⟩)
        ·exact h2 (.inl ⟨h5,h6⟩)
        ·exact h4 ⟨h5,h6⟩
        ·exact h2 (.inr ⟨h5,h6⟩)
        ·exact h3 ⟨h6,h5⟩
      ·refine⟨.inr ⟨fun e=>by subst e;exact hwk h5,.inr rfl,.inl h5⟩,?_⟩
       rintro(⟨h6,_⟩ | ⟨h6,_⟩)
       ·exact hwv h6
       ·subst h6;exact hvk k h5
      ·refine⟨.inr ⟨fun e=>by subst e;exact hwk h5,.inl h5,.inr rfl⟩,?_⟩
       rintro(⟨h6,_⟩ | ⟨h6,_⟩)
       ·subst h6;exact hvk k h5
       ·exact hwv h6
    ·have:=hK S'' hS''
     rw[List.drop_eq_getElem_cons hlt,D2] at this
     obtain⟨h1,h2⟩:=List.getElem?_eq_some_iff.1 hw
     rw[h2] at this
     rw[Cv hw,←this]
     congr 1
     simp;omega
  ·have hke:k=(A6 n A v).length:=by omega
   rw[Ja (by omega),cond_false]
   have:=hK S (hS.congr fun i j hi hj=>?_)
   ·rw[hke,List.take_length,List.drop_length,D2] at this
    simpa using this
   ·rw[hke,List.take_length]
    unfold HW Bt
    have hm:∀ x,x<n→(x ∈ A6 n A v↔A v x=true):=fun x hx=>by rw[Bn];exact⟨fun h=>h.2,fun h=>⟨hx,h⟩⟩
    rw[hm i hi,hm j hj]
    simp only[Bool.and_eq_true,Bool.or_eq_true,bne_iff_ne,ne_eq]
    constructor
    ·rintro⟨⟨h1,h2⟩,h3⟩
     exact⟨h3.imp id (fun h=>⟨h.1,h.2.1,h.2.2⟩),fun h=>by rcases h with⟨h4,_⟩ | ⟨h4,_⟩;exact h1 h4;exact h2 h4⟩
    ·rintro⟨h1,h2⟩
     simp only[not_or,not_and] at h2
     refine⟨⟨fun e=>?_,fun e=>?_⟩,h1⟩
     ·subst e
      rcases h1 with h1 | ⟨_,h4,_⟩
      ·exact h2.1 rfl h1
      ·rw[hA.irr] at h4;cases h4
     ·subst e
      rcases h1 with h1 | ⟨_,_,h4⟩
      ·exact h2.2 rfl (by rw[hA.sym];exact h1)
      ·rw[hA.irr] at h4;cases h4
theorem Mb {N n v:Nat} {A:Nat→Nat→Bool} {S:List (List Int)} {K:Nat→Int→LA→LA→O R} {Y:O R} (hA:Gr A) (hn:n≤1000) (hN:2000≤N) (hv:v<n) (hS:Sets n (fun i j=>A i j=true) S)
  (hK:∀ S',Sets n (fun i j=>Bt A v i j=true) S'→K (A6 n A v).length (D2 A [] (A6 n A v):Nat) (SA S') (Ab (Ap (A6 n A v)))=Y) :
  Bm N n (v:Int) (SA S) K=Y:=by
 rw[Jd,Fb,Cp,Cs]
 obtain⟨l,hl⟩:=hS.get hv
 obtain⟨h1,h2⟩:=hS.sort hl
 have hlen:(A6 n A v).length≤n:=by unfold A6;exact Nat.le_trans (List.length_filter_le _ _) (by simp)
 have hall:(Ab l).all Zb=true:=by
  rw[List.all_eq_true]
  intro x hx
  unfold Ab at hx
  obtain⟨m,hm,rfl⟩:=List.mem_map.1 hx
  obtain⟨j,rfl,hj,_⟩:=((hS.2 v l hl).2 m).1 hm
  simp[Zb];omega
 have hsl:Tf (Ab l)=Ab (Ap (A6 n A v)):=by unfold Tf;rw[P4,h1]
 rw[A8 hv,cond_true]
 simp only[Int.toNat_natCast]
 rw[Sb hl,hall,Ci,h2,hsl]
 have hble:Nat.ble (A6 n A v).length 16777216=true:=by simp;omega
 rw[hble,Bool.and_self,cond_true]
 refine PQ hA hn hN hv N 0 0 S (hS.congr fun i j hi hj=>?_) (Nat.zero_le _) (by omega) (Int.le_refl _) (by simp) (fun S' hS'=>?_)
 ·unfold HW;simp
 ·have:=hK S' hS'
  simpa using this
end
end Gx

namespace Gx
open Go
open IntKind (wrap)
section
variable {R:Type}
theorem Gn {l:List Int} {k:Nat} (h:k<l.length) (K:Int→O R):Ko .i64 ((Ab l).drop (((k:Nat):Int).toNat*1)) K=K (l.getD k 0):=by
 rw[Int.toNat_natCast,Nat.mul_one]
 exact WN (by rw[List.getD_eq_getElem?_getD,List.getElem?_eq_getElem h];rfl) K
theorem Fu {l:List Int} {k:Nat} (h:k<l.length) (K:Int→O R):Ko .i64 ((Ab l).drop (0+((k:Nat):Int).toNat*1)) K=K (l.getD k 0):=by
 rw[Nat.zero_add];exact Gn h K
def Ah (rows:List (List Int)) (i:Nat):List Int:=rows.getD i []
theorem HX {rows:List (List Int)} {i:Nat} (h:i<rows.length):rows[i]?=some (Ah rows i):=by
 unfold Ah;rw[List.getD_eq_getElem?_getD,List.getElem?_eq_getElem h];rfl
theorem Jl {c:LA} {rows:List (List Int)} (h:GR c rows) {k:Nat} (hk:k<rows.length) (K:LA→Nat→O R):DA 1 (c.drop (((k:Nat):Int).toNat*1)) K=K (Ab (Ah rows k)) (Ah rows k).length:=by
 rw[Int.toNat_natCast,Nat.mul_one]
 exact aB h (HX hk) K
theorem WR {c:LA} {rows:List (List Int)} (h:GR c rows) {k:Nat} (hk:k<rows.length) (K:LA→Nat→O R):DA 1 (c.drop (0+((k:Nat):Int).toNat*1)) K=K (Ab (Ah rows k)) (Ah rows k).length:=by
 rw[Nat.zero_add];exact Jl h hk K
def Np (n i:Nat) (r:List Int) (k:Nat):Bool:=decide (0≤r.getD k 0)&&(decide (r.getD k 0<(n:Int))&&(decide (r.getD k 0≠(i:Int))&&(decide (k=0)||decide (r.getD (k - 1) 0<r.getD k 0))))
def Yh (rows:List (List Int)) (i:Nat) (k:Nat):Bool:=decide ((i:Int) ∈ Ah rows ((Ah rows i).getD k 0).toNat)
def Er (k m:Nat) (p:Nat→Bool):Bool:=(List.range' k m).all p
theorem Sc (k:Nat) (p:Nat→Bool):Er k 0 p=true:=rfl
theorem O4 (k m:Nat) (p:Nat→Bool):Er k (m+1) p=(p k&&Er (k+1) m p):=by simp[Er,List.range'_succ]
theorem E4 {k m:Nat} {p:Nat→Bool}:Er k m p=true↔∀ i,k≤i→i<k+m→p i=true:=by
 unfold Er;rw[List.all_eq_true];constructor
 ·intro h i h1 h2;exact h i (by rw[List.mem_range'_1];omega)
 ·intro h i hi;rw[List.mem_range'_1] at hi;exact h i hi.1 hi.2
def vG (rows:List (List Int)):Bool:=Er 0 rows.length (fun i=>Er 0 (Ah rows i).length (Np rows.length i (Ah rows i)))&&Er 0 rows.length (fun i=>Er 0 (Ah rows i).length (Yh rows i))
theorem getD_some {l:List Int} {k:Nat} (h:k<l.length):l[k]?=some (l.getD k 0):=by
 rw[List.getD_eq_getElem?_getD,List.getElem?_eq_getElem h];rfl
theorem Yi {n i:Nat} {r:List Int} (h:Er 0 r.length (Np n i r)=true):r.Pairwise (·<·):=by
 rw[E4] at h
 have key:∀ (d k:Nat),k+d+1<r.length→r.getD k 0<r.getD (k+d+1) 0:=by
  intro d
  induction d with
  | zero =>
   intro k hk
   have:=h (k+1) (by omega) (by omega)
   simp[Np] at this
   simpa using this.2.2.2
  | succ d ih =>
   intro k hk
   have h1:=ih k (by omega)
   have:=h (k+(d+1)+1) (by omega) (by omega)
   simp only[Np,Bool.and_eq_true,Bool.or_eq_true,decide_eq_true_eq] at this
   have h2:=this.2.2.2.resolve_left (by omega)
   have e:k+(d+1)+1 - 1=k+d+1:=by omega
   rw[e] at h2
   omega
 rw[List.pairwise_iff_getElem]
 intro a b ha hb hab
 have:=key (b - a - 1) a (by omega)
 have e:a+(b - a - 1)+1=b:=by omega
 rw[e] at this
 have ea:=getD_some ha
 have eb:=getD_some hb
 rw[List.getElem?_eq_getElem ha] at ea
 rw[List.getElem?_eq_getElem hb] at eb
 injection ea with ea
 injection eb with eb
 omega
theorem XY {N:Nat} (x e:Int) (K:Bool→O R):Iv N x e K=K (decide (x<e)):=by
 rw[Pv];unfold Ot
 rw[N6];unfold Mw
 simp
theorem MY {N:Nat} {l:List Int} {e:Int} {f g:Bool} {r0:Int→Bool→O R} {Y:O R} (hs:l.Pairwise (·<·)) (hl:l.length≤1000) (hK:∀ p,r0 p (decide (e ∈ l))=Y) :
  ∀ (fuel b i:Nat),b≤i→i≤l.length→i - b<fuel→(∀ (k:Nat),k<l.length→k<b→l.getD k 0<e)→(∀ (k:Nat),k<l.length→i≤k→e≤l.getD k 0) →
   A5 N r0 (Ab l) l.length f g e fuel (l.length:Int) (b:Int) (i:Int)=Y
 | 0,_,_,_,_,h,_,_=>by omega
 | fuel+1,b,i,hbi,hil,hfu,h1,h2=>by
  have hmono:∀ (a c:Nat),a<c→c<l.length→l.getD a 0<l.getD c 0:=by
   intro a c hac hc
   have:=(List.pairwise_iff_getElem.1 hs) a c (by omega) hc hac
   have ea:=getD_some (show a<l.length by omega)
   have ec:=getD_some hc
   rw[List.getElem?_eq_getElem (by omega)] at ea ec
   injection ea with ea
   injection ec with ec
   omega
  have hmem:∀ (k:Nat),k<l.length→l.getD k 0=e→e ∈ l:=by
   intro k hk h
   rw[←h];exact List.mem_of_getElem? (getD_some hk)
  have hmem2:e ∈ l→∃ k:Nat,k<l.length∧l.getD k 0=e:=by
   intro h
   obtain⟨k,hk⟩:=List.getElem?_of_mem h
   have hkl:=(List.getElem?_eq_some_iff.1 hk).1
   exact⟨k,hkl,by rw[getD_some hkl] at hk;injection hk⟩
  rw[A5,Cy]
  by_cases hlt:b<i
  ·have hw:wrap .i64 (Int.fdiv (wrap .u64 (wrap .i64 ((b:Int)+(i:Int)))) (2 ^ 1))=(((b+i)/2:Nat):Int):=by
    have e1:wrap .i64 ((b:Int)+(i:Int))=((b+i:Nat):Int):=by rw[MX (by omega) (by omega)];omega
    have e2:wrap .u64 (((b+i:Nat):Int))=((b+i:Nat):Int):=by rw[IntKind.wrap_u64];omega
    have e3:Int.fdiv (((b+i:Nat):Int)) (2 ^ 1)=(((b+i)/2:Nat):Int):=by
     rw[Int.fdiv_eq_ediv_of_nonneg _ (by decide)];rfl
    rw[e1,e2,e3,MX (by omega) (by omega)]
   have hm:(b+i)/2<l.length:=by omega
   rw[Kc (by omega),cond_true,hw,A8 hm,cond_true,Gn hm,XY,wS (by omega)]
   by_cases hx:l.getD ((b+i)/2) 0<e
   ·rw[Kc hx,cond_true]
    refine MY hs hl hK fuel ((b+i)/2+1) i (by omega) hil (by omega) (fun k hk hkb=>?_) h2
    by_cases hke:k=(b+i)/2
    ·subst hke;exact hx
    ·exact Int.lt_trans (hmono k _ (by omega) hm) hx
   ·rw[Ja hx,cond_false]
    refine MY hs hl hK fuel b ((b+i)/2) (by omega) (by omega) (by omega) h1 (fun k hk hkb=>?_)
    by_cases hke:k=(b+i)/2
    ·subst hke;omega
    ·have:=hmono ((b+i)/2) k (by omega) hk;omega
  ·have hbe:b=i:=by omega
   subst hbe
   rw[Ja (by omega),cond_false]
   by_cases hbl:b<l.length
   ·rw[Kc (by omega)]
    simp only[beq_self_eq_true,cond_true]
    rw[A8 hbl,cond_true,Gn hbl]
    by_cases hx:l.getD b 0=e
    ·have hin:=hmem b hbl hx
     have:=hK (b:Int)
     rw[decide_eq_true hin] at this
     simp only[hx,beq_self_eq_true,Bool.true_eq_false,beq_iff_eq]
     simpa using this
    ·have hno:e ∉ l:=fun h=>by
      obtain⟨k,hk,hke⟩:=hmem2 h
      by_cases hkb:k<b
      ·have:=h1 k hk hkb;omega
      ·by_cases hkb2:k=b
       ·subst hkb2;exact hx hke
       ·have:=hmono b k (by omega) hk
        have:=h2 b hbl (Nat.le_refl _)
        omega
     have:=hK (b:Int)
     rw[decide_eq_false hno] at this
     have hbf:(l.getD b 0==e)=false:=by simpa using hx
     rw[hbf]
     simp only[beq_self_eq_true,cond_true]
     rw[Gn hbl,P0]
     unfold Ou
     simpa using this
   ·have hno:e ∉ l:=fun h=>by
     obtain⟨k,hk,hke⟩:=hmem2 h
     have:=h1 k hk (by omega);omega
    have:=hK (b:Int)
    rw[decide_eq_false hno] at this
    rw[Ja (by omega)]
    simpa using this
theorem aY {N:Nat} {l:List Int} {e:Int} {f g:Bool} {r0:Int→Bool→O R} {Y:O R} (hN:2000≤N) (hs:l.Pairwise (·<·)) (hl:l.length≤1000) (hK:∀ p,r0 p (decide (e ∈ l))=Y) :
  Bh N (Ab l) l.length f g e r0=Y:=by
 rw[Fm,Cm]
 exact MY hs hl hK N 0 l.length (Nat.zero_le _) (Nat.le_refl _) (by omega) (fun k _ h=>by omega) (fun k h1 h2=>by omega)
end
end Gx

namespace Gx
open Go
open IntKind (wrap)
section
variable {R:Type}
theorem HY {r:List Int} {k:Nat} {n:Nat} (h0:0≤r.getD k 0) (h:r.getD k 0<(n:Int)):r.getD k 0=(((r.getD k 0).toNat:Nat):Int)∧(r.getD k 0).toNat<n:=by omega
theorem YK {N n i:Nat} {f s:Int} {r:List Int} {d:LA} {e c:Bool} {k0:Int→Int→O R} {r0:Bool→O R} (hr:r.length≤1000) :
  ∀ (fuel l:Nat),l≤r.length→r.length - l<fuel→Ia N k0 r0 d n e c (Ab r) r.length f fuel (i:Int) s (r.length:Int) (l:Int)=cond (Er l (r.length - l) (Np n i r)) (k0 f (wrap .i64 (s+1))) (r0 false)
 | 0,_,_,h=>by omega
 | fuel+1,l,hl,hf=>by
  rw[Ia,Rv]
  by_cases hlt:l<r.length
  ·rw[Kc (by omega),cond_true,A8 hlt,cond_true,Gn hlt]
   have e1:r.length - l=(r.length - (l+1))+1:=by omega
   rw[e1,O4]
   have ih:=YK (N:=N) (n:=n) (i:=i) (f:=f) (s:=s) (d:=d) (e:=e) (c:=c) (k0:=k0) (r0:=r0) hr fuel (l+1) (by omega) (by omega)
   unfold Np at ih ⊢
   by_cases a1:r.getD l 0<0
   ·rw[Kc a1,decide_eq_false (show ¬ 0≤r.getD l 0 by omega)];rfl
   ·rw[Ja a1,decide_eq_true (show 0≤r.getD l 0 by omega)]
    by_cases a2:r.getD l 0<(n:Int)
    ·rw[Kc a2,decide_eq_false (show ¬ r.getD l 0≥(n:Int) by omega)]
     by_cases a3:r.getD l 0=(i:Int)
     ·rw[decide_eq_false (show ¬ r.getD l 0≠(i:Int) by simpa using a3),beq_iff_eq.2 a3];rfl
     ·have hb:(r.getD l 0==(i:Int))=false:=by simpa using a3
      rw[decide_eq_true (show r.getD l 0≠(i:Int) from a3),hb]
      simp only[cond_true,cond_false,beq_self_eq_true,Bool.true_and]
      by_cases a4:l=0
      ·subst a4
       rw[Ja (by omega)]
       rw[wS (by omega),ih]
       rfl
      ·have e2:wrap .i64 ((l:Int) - 1)=((l - 1:Nat):Int):=by rw[MX (by omega) (by omega)];omega
       rw[Kc (by omega)]
       simp only[beq_self_eq_true,cond_true]
       rw[e2,A8 (by omega),cond_true,Gn (by omega),decide_eq_false a4,Bool.false_or]
       by_cases a5:r.getD (l - 1) 0<r.getD l 0
       ·rw[decide_eq_false (show ¬ r.getD (l - 1) 0≥r.getD l 0 by omega),decide_eq_true a5]
        simp only[cond_true,cond_false,Bool.true_and]
        rw[wS (by omega),ih]
       ·rw[decide_eq_true (show r.getD (l - 1) 0≥r.getD l 0 by omega),decide_eq_false a5];rfl
    ·rw[Ja a2,decide_eq_true (show r.getD l 0≥(n:Int) by omega)];rfl
  ·have hle:l=r.length:=by omega
   rw[Ja (by omega),cond_false,hle,Nat.sub_self,Sc,cond_true]
theorem YL {N i:Nat} {g x:Int} {rows:List (List Int)} {d:LA} {e c:Bool} {k2:Int→Int→O R} {r0:Bool→O R} (hN:2000≤N) (hd:GR d rows) (hrl:∀ j,(Ah rows j).length≤1000)
  (hok:∀ j,j<rows.length→Er 0 (Ah rows j).length (Np rows.length j (Ah rows j))=true) (hi:i<rows.length) :
  ∀ (fuel q:Nat),q≤(Ah rows i).length→(Ah rows i).length - q<fuel→Ib N k2 r0 d rows.length e c g (Ab (Ah rows i)) (Ah rows i).length fuel (i:Int) x ((Ah rows i).length:Int) (q:Int)=cond (Er q ((Ah rows i).length - q) (Yh rows i)) (k2 g (wrap .i64 (x+1))) (r0 false)
 | 0,_,_,h=>by omega
 | fuel+1,q,hl,hf=>by
  have hr:=hrl i
  rw[Ib,Rw]
  by_cases hlt:q<(Ah rows i).length
  ·rw[Kc (by omega),cond_true,A8 hlt,cond_true,Gn hlt]
   have e1:(Ah rows i).length - q=((Ah rows i).length - (q+1))+1:=by omega
   rw[e1,O4]
   have h1:=(E4.1 (hok i hi)) q (Nat.zero_le _) (by omega)
   simp only[Np,Bool.and_eq_true,decide_eq_true_eq] at h1
   obtain⟨h2,h3⟩:=HY h1.1 h1.2.1
   unfold Yh
   rw[h2,A8 h3,cond_true,Jl hd h3]
   refine aY hN (Yi (hok _ h3)) (hrl _) (fun p=>?_)
   rw[Int.toNat_natCast]
   have ih:=YL (N:=N) (x:=x) (g:=g) (e:=e) (c:=c) (k2:=k2) (r0:=r0) hN hd hrl hok hi fuel (q+1) (by omega) (by omega)
   unfold Yh at ih
   rw[wS (by omega),ih]
   cases decide ((i:Int) ∈ Ah rows ((Ah rows i).getD q 0).toNat)<;>rfl
  ·have hle:q=(Ah rows i).length:=by omega
   rw[Ja (by omega),cond_false,hle,Nat.sub_self,Sc,cond_true]
theorem YM {N:Nat} {rows:List (List Int)} {d:LA} {e c:Bool} {r0:Bool→O R} (hN:2000≤N) (hd:GR d rows) (hn:rows.length≤1000) (hrl:∀ j,(Ah rows j).length≤1000)
  (hok:∀ j,j<rows.length→Er 0 (Ah rows j).length (Np rows.length j (Ah rows j))=true) :
  ∀ (fuel m:Nat),m≤rows.length→rows.length - m<fuel→F8 N r0 d rows.length e c fuel (rows.length:Int) (m:Int)=r0 (Er m (rows.length - m) (fun i=>Er 0 (Ah rows i).length (Yh rows i)))
 | 0,_,_,h=>by omega
 | fuel+1,m,hl,hf=>by
  rw[F8,Rx]
  by_cases hlt:m<rows.length
  ·have e1:rows.length - m=(rows.length - (m+1))+1:=by omega
   have hr:=hrl m
   rw[Kc (by omega),cond_true,A8 hlt,cond_true,Jl hd hlt]
   have:=YL (N:=N) (i:=m) (g:=(rows.length:Int)) (x:=(m:Int)) (e:=e) (c:=c) (k2:=F8 N r0 d rows.length e c fuel) (r0:=r0) hN hd hrl hok hlt N 0 (Nat.zero_le _) (by omega)
   refine Eq.trans this ?_
   rw[wS (by omega),YM hN hd hn hrl hok fuel (m+1) (by omega) (by omega),e1,O4,Nat.sub_zero]
   cases Er 0 (Ah rows m).length (Yh rows m)<;>rfl
  ·have hle:m=rows.length:=by omega
   rw[Ja (by omega),cond_false,hle,Nat.sub_self,Sc]
theorem YN {N:Nat} {rows:List (List Int)} {d:LA} {e c:Bool} {r0:Bool→O R} (hN:2000≤N) (hd:GR d rows) (hn:rows.length≤1000) (hrl:∀ j,(Ah rows j).length≤1000) :
  ∀ (fuel m:Nat),m≤rows.length→rows.length - m<fuel→(∀ j,j<m→Er 0 (Ah rows j).length (Np rows.length j (Ah rows j))=true) →
   F9 N r0 d rows.length e c fuel (rows.length:Int) (m:Int)=r0 (Er m (rows.length - m) (fun i=>Er 0 (Ah rows i).length (Np rows.length i (Ah rows i)))&&Er 0 rows.length (fun i=>Er 0 (Ah rows i).length (Yh rows i)))
 | 0,_,_,h,_=>by omega
 | fuel+1,m,hl,hf,hj=>by
  rw[F9,Ry]
  by_cases hlt:m<rows.length
  ·have e1:rows.length - m=(rows.length - (m+1))+1:=by omega
   have hr:=hrl m
   rw[Kc (by omega),cond_true,A8 hlt,cond_true,Jl hd hlt]
   refine Eq.trans (YK (hrl m) N 0 (Nat.zero_le _) (by omega)) ?_
   rw[Nat.sub_zero,e1,O4]
   cases hb:Er 0 (Ah rows m).length (Np rows.length m (Ah rows m)) with
   | false=>rfl
   | true =>
    rw[cond_true,wS (by omega),YN hN hd hn hrl fuel (m+1) (by omega) (by omega) (fun j h=>?_),Bool.true_and]
    by_cases hjm:j=m
    ·subst hjm;exact hb
    ·exact hj j (by omega)
  ·have hle:m=rows.length:=by omega
   subst hle
   rw[Ja (by omega),cond_false,Nat.sub_self,Sc,Bool.true_and]
   exact YM hN hd hn hrl hj N 0 (Nat.zero_le _) (by omega)
theorem Oi {N:Nat} {rows:List (List Int)} {d:LA} {e c:Bool} {r0:Bool→O R} (hN:2000≤N) (hd:GR d rows) (hn:rows.length≤1000) (hrl:∀ j,(Ah rows j).length≤1000) :
  Iy N d rows.length e c r0=r0 (vG rows):=by
 rw[Y9,Wr,Ja (by omega),cond_false]
 have:=YN (e:=e) (c:=c) (r0:=r0) hN hd hn hrl N 0 (Nat.zero_le _) (by omega) (fun j h=>by omega)
 rw[Nat.sub_zero] at this
 exact this
theorem WS {N:Nat} {l:List Int} {e f:Bool} {v:Int} {r0:Bool→O R} (hl:l.length≤1000) :
  ∀ (fuel k:Nat),k≤l.length→l.length - k<fuel→J9 N r0 (Ab l) l.length e f v fuel (k:Int)=r0 (decide (v ∈ l.drop k))
 | 0,_,_,h=>by omega
 | fuel+1,k,hk,hf=>by
  rw[J9,Vz]
  by_cases hlt:k<l.length
  ·rw[Kc (by omega),cond_true,A8 hlt,cond_true,Gn hlt]
   have e1:l.drop k=l.getD k 0::l.drop (k+1):=by
    rw[List.drop_eq_getElem_cons hlt];congr 1
    have:=getD_some hlt
    rw[List.getElem?_eq_getElem hlt] at this;injection this
   rw[e1]
   by_cases h:l.getD k 0=v
   ·rw[beq_iff_eq.2 h,cond_true,decide_eq_true]
    rw[h];exact List.mem_cons_self
   ·have hb:(l.getD k 0==v)=false:=by simpa using h
    rw[hb,cond_false,wS (by omega),WS hl fuel (k+1) (by omega) (by omega)]
    congr 1
    have hv:¬ v=l.getD k 0:=fun e=>h e.symm
    by_cases h2:v ∈ l.drop (k+1)
    ·rw[decide_eq_true h2,decide_eq_true (List.mem_cons_of_mem _ h2)]
    ·rw[decide_eq_false h2,decide_eq_false (fun h3=>by rcases List.mem_cons.1 h3 with h3 | h3;exact hv h3;exact h2 h3)]
  ·rw[Ja (by omega),cond_false,List.drop_of_length_le (by omega)];rfl
theorem aC {N:Nat} {l:List Int} {e f:Bool} {v:Int} {r0:Bool→O R} (hN:2000≤N) (hl:l.length≤1000):Ws N (Ab l) l.length e f v r0=r0 (decide (v ∈ l)):=by
 rw[CS,Ze]
 exact WS hl N 0 (Nat.zero_le _) (by omega)
theorem YO {N i:Nat} {rows:List (List Int)} {d:LA} {e c:Bool} {k0:Int→O R} {r0:Bool→O R} (hd:GR d rows) (hn:rows.length≤1000) (hrl:∀ j,(Ah rows j).length≤1000) (hi:i<rows.length) :
  ∀ (fuel l:Nat),l≤(Ah rows i).length→(Ah rows i).length - l<fuel→G1 N k0 r0 d rows.length e c fuel (i:Int) (l:Int)=cond (Er l ((Ah rows i).length - l) (Np rows.length i (Ah rows i))) (k0 ((i+1:Nat):Int)) (r0 false)
 | 0,_,_,h=>by omega
 | fuel+1,l,hl,hf=>by
  have hr:=hrl i
  rw[G1,Ox,A8 hi,cond_true,Jl hd hi]
  by_cases hlt:l<(Ah rows i).length
  ·rw[Kc (by omega),cond_true,cond_true,Jl hd hi,A8 hlt,cond_true,Gn hlt]
   have e1:(Ah rows i).length - l=((Ah rows i).length - (l+1))+1:=by omega
   rw[e1,O4]
   have ih:=YO (N:=N) (e:=e) (c:=c) (k0:=k0) (r0:=r0) hd hn hrl hi fuel (l+1) (by omega) (by omega)
   unfold Np at ih ⊢
   by_cases a1:(Ah rows i).getD l 0<0
   ·rw[Kc a1,decide_eq_false (show ¬ 0≤(Ah rows i).getD l 0 by omega)];rfl
   ·rw[Ja a1,decide_eq_true (show 0≤(Ah rows i).getD l 0 by omega)]
    by_cases a2:(Ah rows i).getD l 0<(rows.length:Int)
    ·rw[Kc a2,decide_eq_false (show ¬ (Ah rows i).getD l 0≥(rows.length:Int) by omega)]
     by_cases a3:(Ah rows i).getD l 0=(i:Int)
     ·rw[decide_eq_false (show ¬ (Ah rows i).getD l 0≠(i:Int) by simpa using a3),beq_iff_eq.2 a3];rfl
     ·have hb:((Ah rows i).getD l 0==(i:Int))=false:=by simpa using a3
      rw[decide_eq_true (show(Ah rows i).getD l 0≠(i:Int) from a3),hb]
      simp only[cond_true,cond_false,beq_self_eq_true,Bool.true_and]
      by_cases a4:l=0
      ·subst a4
       rw[Ja (by omega)]
       rw[wS (by omega),ih]
       rfl
      ·have e2:wrap .i64 ((l:Int) - 1)=((l - 1:Nat):Int):=by rw[MX (by omega) (by omega)];omega
       rw[Kc (by omega)]
       simp only[beq_self_eq_true,cond_true]
       rw[Jl hd hi,e2,A8 (by omega),cond_true,Gn (by omega),decide_eq_false a4,Bool.false_or]
       by_cases a5:(Ah rows i).getD (l - 1) 0<(Ah rows i).getD l 0
       ·rw[decide_eq_false (show ¬ (Ah rows i).getD l 0≤(Ah rows i).getD (l - 1) 0 by omega),decide_eq_true a5]
        simp only[cond_true,cond_false,Bool.true_and]
        rw[wS (by omega),ih]
       ·rw[decide_eq_true (show(Ah rows i).getD l 0≤(Ah rows i).getD (l - 1) 0 by omega),decide_eq_false a5];rfl
    ·rw[Ja a2,decide_eq_true (show(Ah rows i).getD l 0≥(rows.length:Int) by omega)];rfl
  ·have hle:l=(Ah rows i).length:=by omega
   rw[Ja (by omega),cond_false,hle,Nat.sub_self,Sc,cond_true,wS (by omega)]
theorem YP {N i:Nat} {rows:List (List Int)} {d:LA} {e c:Bool} {k2:Int→O R} {r0:Bool→O R} (hN:2000≤N) (hd:GR d rows) (hn:rows.length≤1000) (hrl:∀ j,(Ah rows j).length≤1000)
  (hok:∀ j,j<rows.length→Er 0 (Ah rows j).length (Np rows.length j (Ah rows j))=true) (hi:i<rows.length) :
  ∀ (fuel q:Nat),q≤(Ah rows i).length→(Ah rows i).length - q<fuel→G2 N k2 r0 d rows.length e c fuel (i:Int) (q:Int)=cond (Er q ((Ah rows i).length - q) (Yh rows i)) (k2 ((i+1:Nat):Int)) (r0 false)
 | 0,_,_,h=>by omega
 | fuel+1,q,hl,hf=>by
  have hr:=hrl i
  rw[G2,Oy,A8 hi,cond_true,Jl hd hi]
  by_cases hlt:q<(Ah rows i).length
  ·rw[Kc (by omega),cond_true,cond_true,Jl hd hi,A8 hlt,cond_true,Gn hlt]
   have e1:(Ah rows i).length - q=((Ah rows i).length - (q+1))+1:=by omega
   rw[e1,O4]
   have h1:=(E4.1 (hok i hi)) q (Nat.zero_le _) (by omega)
   simp only[Np,Bool.and_eq_true,decide_eq_true_eq] at h1
   obtain⟨h2,h3⟩:=HY h1.1 h1.2.1
   unfold Yh
   rw[h2,A8 h3,cond_true,Jl hd h3,aC hN (hrl _)]
   rw[Int.toNat_natCast]
   have ih:=YP (N:=N) (e:=e) (c:=c) (k2:=k2) (r0:=r0) hN hd hn hrl hok hi fuel (q+1) (by omega) (by omega)
   unfold Yh at ih
   rw[wS (by omega),ih]
   cases decide ((i:Int) ∈ Ah rows ((Ah rows i).getD q 0).toNat)<;>rfl
  ·have hle:q=(Ah rows i).length:=by omega
   rw[Ja (by omega),cond_false,hle,Nat.sub_self,Sc,cond_true,wS (by omega)]
theorem YQ {N:Nat} {rows:List (List Int)} {d:LA} {e c:Bool} {r0:Bool→O R} (hN:2000≤N) (hd:GR d rows) (hn:rows.length≤1000) (hrl:∀ j,(Ah rows j).length≤1000)
  (hok:∀ j,j<rows.length→Er 0 (Ah rows j).length (Np rows.length j (Ah rows j))=true) :
  ∀ (fuel m:Nat),m≤rows.length→rows.length - m<fuel→G3 N r0 d rows.length e c fuel (m:Int)=r0 (Er m (rows.length - m) (fun i=>Er 0 (Ah rows i).length (Yh rows i)))
 | 0,_,_,h=>by omega
 | fuel+1,m,hl,hf=>by
  rw[G3,Oz]
  by_cases hlt:m<rows.length
  ·have e1:rows.length - m=(rows.length - (m+1))+1:=by omega
   have hr:=hrl m
   rw[Kc (by omega),cond_true]
   refine Eq.trans (YP hN hd hn hrl hok hlt N 0 (Nat.zero_le _) (by omega)) ?_
   rw[YQ hN hd hn hrl hok fuel (m+1) (by omega) (by omega),e1,O4,Nat.sub_zero]
   cases Er 0 (Ah rows m).length (Yh rows m)<;>rfl
  ·have hle:m=rows.length:=by omega
   rw[Ja (by omega),cond_false,hle,Nat.sub_self,Sc]
theorem YR {N:Nat} {rows:List (List Int)} {d:LA} {e c:Bool} {r0:Bool→O R} (hN:2000≤N) (hd:GR d rows) (hn:rows.length≤1000) (hrl:∀ j,(Ah rows j).length≤1000) :
  ∀ (fuel m:Nat),m≤rows.length→rows.length - m<fuel→(∀ j,j<m→Er 0 (Ah rows j).length (Np rows.length j (Ah rows j))=true) →
   Ff N r0 d rows.length e c fuel (m:Int)=r0 (Er m (rows.length - m) (fun i=>Er 0 (Ah rows i).length (Np rows.length i (Ah rows i)))&&Er 0 rows.length (fun i=>Er 0 (Ah rows i).length (Yh rows i)))
 | 0,_,_,h,_=>by omega
 | fuel+1,m,hl,hf,hj=>by
  rw[Ff,O0]
  by_cases hlt:m<rows.length
  ·have e1:rows.length - m=(rows.length - (m+1))+1:=by omega
   have hr:=hrl m
   rw[Kc (by omega),cond_true]
   refine Eq.trans (YO hd hn hrl hlt N 0 (Nat.zero_le _) (by omega)) ?_
   rw[Nat.sub_zero,e1,O4]
   cases hb:Er 0 (Ah rows m).length (Np rows.length m (Ah rows m)) with
   | false=>rfl
   | true =>
    rw[cond_true,YR hN hd hn hrl fuel (m+1) (by omega) (by omega) (fun j h=>?_),Bool.true_and]
    by_cases hjm:j=m
    ·subst hjm;exact hb
    ·exact hj j (by omega)
  ·have hle:m=rows.length:=by omega
   subst hle
   rw[Ja (by omega),cond_false,Nat.sub_self,Sc,Bool.true_and]
   exact YQ hN hd hn hrl hj N 0 (Nat.zero_le _) (by omega)
theorem MZ {N:Nat} {rows:List (List Int)} {d:LA} {e c:Bool} {r0:Bool→O R} (hN:2000≤N) (hd:GR d rows) (hn:rows.length≤1000) (hrl:∀ j,(Ah rows j).length≤1000) :
  Mi N d rows.length e c r0=r0 (vG rows):=by
 rw[Xs,R5,Ja (by omega),cond_false]
 have:=YR (e:=e) (c:=c) (r0:=r0) hN hd hn hrl N 0 (Nat.zero_le _) (by omega) (fun j h=>by omega)
 rw[Nat.sub_zero] at this
 exact this
end
end Gx

namespace Gx
open Go
open IntKind (wrap)
section
variable {R:Type}
def Aw (rows:List (List Int)) (i j:Nat):Bool:=decide ((j:Int) ∈ Ah rows i)
theorem V8 {rows:List (List Int)} {i:Nat} (h:¬ i<rows.length):Ah rows i=[]:=by
 unfold Ah;rw[List.getD_eq_getElem?_getD,List.getElem?_eq_none (by omega)];rfl
theorem HZ {l:List Int} {x:Int} (h:x ∈ l):∃ k:Nat,k<l.length∧l.getD k 0=x:=by
 obtain⟨k,hk⟩:=List.getElem?_of_mem h
 have hkl:=(List.getElem?_eq_some_iff.1 hk).1
 exact⟨k,hkl,by rw[getD_some hkl] at hk;injection hk⟩
theorem H_ {rows:List (List Int)} (h:vG rows=true) {i:Nat}:Er 0 (Ah rows i).length (Np rows.length i (Ah rows i))=true:=by
 unfold vG at h
 rw[Bool.and_eq_true] at h
 by_cases hi:i<rows.length
 ·exact(E4.1 h.1) i (Nat.zero_le _) (by omega)
 ·rw[V8 hi];rfl
theorem Yj {rows:List (List Int)} (h:vG rows=true) {i:Nat} {x:Int} (hx:x ∈ Ah rows i):∃ j:Nat,x=(j:Int)∧j<rows.length∧j≠i∧i<rows.length:=by
 have hi:i<rows.length:=by
  by_cases hi:i<rows.length
  ·exact hi
  ·rw[V8 hi] at hx;cases hx
 obtain⟨k,hk,rfl⟩:=HZ hx
 have:=(E4.1 (H_ h (i:=i))) k (Nat.zero_le _) (by omega)
 simp only[Np,Bool.and_eq_true,decide_eq_true_eq] at this
 exact⟨((Ah rows i).getD k 0).toNat,by omega,by omega,by omega,hi⟩
theorem EL {rows:List (List Int)} (h:vG rows=true) {i j:Nat} (hij:Aw rows i j=true):i<rows.length∧j<rows.length:=by
 unfold Aw at hij
 obtain⟨k,h1,h2,_,h4⟩:=Yj h (of_decide_eq_true hij)
 omega
theorem Zp {rows:List (List Int)} (h:vG rows=true) {i j:Nat} (hij:Aw rows i j=true):Aw rows j i=true:=by
 have hl:=EL h hij
 unfold Aw at hij ⊢
 obtain⟨k,hk,hke⟩:=HZ (of_decide_eq_true hij)
 unfold vG at h
 rw[Bool.and_eq_true] at h
 have:=(E4.1 ((E4.1 h.2) i (Nat.zero_le _) (by omega))) k (Nat.zero_le _) (by omega)
 unfold Yh at this
 rw[hke,Int.toNat_natCast] at this
 exact this
theorem Qy {rows:List (List Int)} (h:vG rows=true):Gr (Aw rows):=by
 refine⟨fun i j=>?_,fun i=>?_⟩
 ·cases h1:Aw rows i j with
  | true=>exact(Zp h h1).symm
  | false =>
   cases h2:Aw rows j i with
   | false=>rfl
   | true=>rw[Zp h h2] at h1;cases h1
 ·cases h1:Aw rows i i with
  | false=>rfl
  | true =>
   obtain⟨k,h2,_,h4,_⟩:=Yj h (of_decide_eq_true h1)
   omega
theorem IA {rows:List (List Int)} (h:vG rows=true) (i:Nat):Ah rows i=Ap (A6 rows.length (Aw rows) i):=by
 have hp:=Yi (H_ h (i:=i))
 have hq:(Ap (A6 rows.length (Aw rows) i)).Pairwise (·<·):=by
  unfold Ap A6
  rw[List.pairwise_map]
  exact(List.pairwise_lt_range.sublist List.filter_sublist).imp (fun h=>by omega)
 have hnd:∀ {l:List Int},l.Pairwise (·<·)→l.Nodup:=fun h=>h.imp (fun h=>by omega)
 have hperm:(Ah rows i).Perm (Ap (A6 rows.length (Aw rows) i)):=(List.perm_ext_iff_of_nodup (hnd hp) (hnd hq)).2 (fun x=>by
  unfold Ap
  rw[List.mem_map]
  constructor
  ·intro hx
   obtain⟨j,rfl,h2,h3,h4⟩:=Yj h hx
   exact⟨j,Bn.2 ⟨h2,decide_eq_true hx⟩,rfl⟩
  ·rintro⟨j,hj,rfl⟩
   exact of_decide_eq_true (Bn.1 hj).2)
 exact List.Perm.eq_of_pairwise (le:=fun a b:Int=>a<b) (fun a b _ _ h3 h4=>by omega) hp hq hperm
theorem EM {rows:List (List Int)} (h:vG rows=true):Sets rows.length (fun i j=>Aw rows i j=true) rows:=by
 refine⟨rfl,fun i l hl=>?_⟩
 have hi:=(List.getElem?_eq_some_iff.1 hl).1
 have e:l=Ah rows i:=by rw[HX hi] at hl;injection hl with hl;exact hl.symm
 subst e
 refine⟨(Yi (H_ h (i:=i))).imp (fun h=>by omega),fun x=>?_⟩
 constructor
 ·intro hx
  obtain⟨j,rfl,h2,_,_⟩:=Yj h hx
  exact⟨j,rfl,h2,decide_eq_true hx⟩
 ·rintro⟨j,rfl,_,hj⟩;exact of_decide_eq_true hj
theorem V9 {rows:List (List Int)} (h:vG rows=true) (i:Nat):(Ah rows i).length≤rows.length:=by
 rw[IA h i,A2]
 unfold A6;exact Nat.le_trans (List.length_filter_le _ _) (by simp)
theorem aD (S T:List (List Int)):SA (S++T)=SA S++SA T:=by simp[SA]
theorem aE {P:List (List Int)} {a:List Int} {t:LA} (K:LA→O R):RP ((SA (P++[a])++t).drop P.length) K=K (Ab a):=by
 unfold RP
 rw[List.head?_drop,List.getElem?_append_left (by simp[SA])]
 simp[SA,Pa,Bo]
theorem aF {P:List (List Int)} {a b:List Int} {t:LA}:(SA (P++[a])++t).set P.length (Bo (Ab b) 0 0)=SA (P++[b])++t:=by
 rw[List.set_append_left _ _ (by simp[SA])]
 congr 1
 rw[HT];congr 1
 rw[List.set_append_right _ _ (Nat.le_refl _)]
 simp
theorem aG {P:List (List Int)} {k:Nat}:(SA P++List.replicate (k+1) AV.nsl).set P.length (Bo [] 0 0)=SA (P++[[]])++List.replicate k AV.nsl:=by
 rw[List.set_append_right _ _ (by simp[SA]),aD]
 simp[SA,List.replicate_succ,Ab]
theorem WT {l:List Int} (h:l.Nodup) {k:Nat} (hk:k<l.length):UU (l.take k) (l.getD k 0)=l.take (k+1):=by
 unfold UU
 rw[Cv (getD_some hk),if_neg]
 intro hm
 obtain⟨j,hj⟩:=List.getElem?_of_mem hm
 rw[List.getElem?_take] at hj
 split at hj
 ·have h2:=getD_some hk
  obtain⟨h3,h4⟩:=List.getElem?_eq_some_iff.1 hj
  obtain⟨h5,h6⟩:=List.getElem?_eq_some_iff.1 h2
  have:=(List.getElem_inj h).1 (h4.trans h6.symm)
  omega
 ·cases hj
theorem YS {N n:Nat} {f:Int} {r:List Int} {P:List (List Int)} {t c:LA} {e d:Bool} {k0:Int→Int→LA→O R} {r0:LA→O R} (hr:r.length≤1000) (hnd:r.Nodup) (hP:P.length<n) (hn:n≤1000) :
  ∀ (fuel m:Nat),m≤r.length→r.length - m<fuel→Fx N k0 r0 n c e d f (Ab r) r.length fuel (P.length:Int) (P.length:Int) (r.length:Int) (m:Int) (SA (P++[r.take m])++t)=k0 f ((P.length+1:Nat):Int) (SA (P++[r])++t)
 | 0,_,_,h=>by omega
 | fuel+1,m,hm,hf=>by
  rw[Fx,M0]
  by_cases hlt:m<r.length
  ·rw[Kc (by omega),cond_true,A8 hlt,cond_true,Gn hlt,A8 hP,cond_true,Int.toNat_natCast,aE,SB,aF,WT hnd hlt,wS (by omega)]
   exact YS hr hnd hP hn fuel (m+1) (by omega) (by omega)
  ·have:m=r.length:=by omega
   subst this
   rw[Ja (by omega),cond_false,List.take_length,wS (by omega)]
theorem YT {N:Nat} {rows:List (List Int)} {c:LA} {e d:Bool} {r0:LA→O R} (hN:2000≤N) (hc:GR c rows) (hn:rows.length≤1000) (hrl:∀ j,(Ah rows j).length≤1000) (hnd:∀ j,(Ah rows j).Nodup) :
  ∀ (fuel g:Nat),g≤rows.length→rows.length - g<fuel→Di N r0 rows.length c e d fuel (rows.length:Int) (g:Int) (SA (rows.take g)++List.replicate (rows.length - g) AV.nsl)=r0 (SA rows)
 | 0,_,_,h=>by omega
 | fuel+1,g,hg,hf=>by
  rw[Di,M1]
  by_cases hlt:g<rows.length
  ·have hr:=hrl g
   have e1:rows.length - g=(rows.length - (g+1))+1:=by omega
   have e2:(rows.take g).length=g:=by simp;omega
   rw[Kc (by omega),cond_true,A8 hlt,cond_true,Jl hc hlt,cond_true,Int.toNat_natCast,e1]
   have h1:=aG (P:=rows.take g) (k:=rows.length - (g+1))
   rw[e2] at h1
   rw[h1]
   have h2:=YS (N:=N) (f:=(rows.length:Int)) (P:=rows.take g) (t:=List.replicate (rows.length - (g+1)) AV.nsl) (c:=c) (e:=e) (d:=d) (k0:=Di N r0 rows.length c e d fuel) (r0:=r0) (n:=rows.length) hr (hnd g) (by omega) hn N 0 (Nat.zero_le _) (by omega)
   rw[e2] at h2
   rw[List.take_zero] at h2
   refine Eq.trans h2 ?_
   rw[←Cv (HX hlt)]
   exact YT hN hc hn hrl hnd fuel (g+1) (by omega) (by omega)
  ·have:g=rows.length:=by omega
   subst this
   rw[Ja (by omega),cond_false];simp
theorem Sd {N:Nat} {rows:List (List Int)} {c:LA} {e d:Bool} {r0:LA→O R} (hN:2000≤N) (hc:GR c rows) (hn:rows.length≤1000) (hv:vG rows=true):Fa N c rows.length e d r0=r0 (SA rows):=by
 rw[Vo,Oc]
 have hb:(decide (0≤((rows.length:Nat):Int))&&(decide (((rows.length:Nat):Int)=((rows.length:Nat):Int))&&(decide (((rows.length:Nat):Int)≤140737488355328)&&decide (((rows.length:Nat):Int)*((8:Nat):Int)≤140737488355328))))=true:=by simp;omega
 rw[hb,cond_true]
 have:=YT (e:=e) (d:=d) (r0:=r0) hN hc hn (fun j=>Nat.le_trans (V9 hv j) hn) (fun j=>(Yi (H_ hv (i:=j))).imp (fun h=>by omega)) N 0 (Nat.zero_le _) (by omega)
 rw[List.take_zero,Nat.sub_zero] at this
 exact this
end
end Gx

namespace Gx
open Go
open IntKind (wrap)
section
variable {R:Type}
def WU (n:Nat) (ord:List Int) (k:Nat):Bool:=decide (0≤ord.getD k 0)&&(decide (ord.getD k 0<(n:Int))&&!decide (ord.getD k 0 ∈ ord.take k))
def pG (n:Nat) (ord:List Int):Bool:=decide (ord.length=n)&&Er 0 ord.length (WU n ord)
def SD (n:Nat) (ord:List Int) (P:List Int):Prop:=P.length=n∧∀ k:Nat,k<ord.length→P.getD (ord.getD k 0).toNat 0=(k:Int)
theorem K8 {P:List Int} {i j:Nat} {x:Int} (h:i<P.length):(P.set i x).getD j 0=if j=i then x else P.getD j 0:=by
 rw[List.getD_eq_getElem?_getD,List.getD_eq_getElem?_getD]
 by_cases e:j=i
 ·subst e;rw[if_pos rfl,List.getElem?_set_self h];rfl
 ·rw[if_neg e,List.getElem?_set_ne (Ne.symm e)]
theorem PR {l:List Int} {k m:Nat} (h:k<l.length) (hk:k<m):l.getD k 0 ∈ l.take m :=
 List.mem_of_getElem? (i:=k) (by rw[List.getElem?_take_of_lt hk];exact getD_some h)
theorem WV {l:List Int} {m:Nat} {x:Int} (h:x ∈ l.take m):∃ k:Nat,k<m∧k<l.length∧l.getD k 0=x:=by
 obtain⟨k,hk⟩:=List.getElem?_of_mem h
 rw[List.getElem?_take] at hk
 split at hk
 ·rename_i hkm
  have hkl:=(List.getElem?_eq_some_iff.1 hk).1
  exact⟨k,hkm,hkl,by rw[getD_some hkl] at hk;injection hk⟩
 ·cases hk
theorem M_ {L:Nat} {x:Nat} (h:x<L):(Nat.beq 1 1&&(Nat.ble (0+((x:Nat):Int).toNat*1+1) L&&!false))=true:=by
 rw[Int.toNat_natCast,Nat.zero_add,Nat.mul_one];simp;omega
theorem aZ {L:Nat} {x:Nat} (h:x<L):(Nat.beq 1 1&&(Nat.ble (0+((x:Nat):Int).toNat*1+1) L&&true))=true:=by
 rw[Int.toNat_natCast,Nat.zero_add,Nat.mul_one];simp;omega
theorem UV {l:List Int} {k:Nat} {x:Int}:(Ab l).set (0+((k:Nat):Int).toNat*1) (.int .i64 x)=Ab (l.set k x):=by
 rw[Int.toNat_natCast,Nat.zero_add,Nat.mul_one,US]
theorem YU {N n:Nat} {ord:List Int} {e f:Bool} {r0:Nat→Bool→LA→O R} {Y:O R} (hn:n≤1000) (hl:ord.length≤1000) :
  ∀ (fuel l:Nat) (P:List Int),l≤ord.length→ord.length - l<fuel→(Er l (ord.length - l) (WU n ord)=true→∀ P,SD n ord P→r0 n true (Ab P)=Y)→P.length=n→(∀ k:Nat,k<l→P.getD (ord.getD k 0).toNat 0=(k:Int)) →
   (∀ x:Nat,x<n→(x:Int) ∉ ord.take l→P.getD x 0=-1)→(∀ k:Nat,k<l→0≤ord.getD k 0) →
   Fo N r0 (n:Int) n (Ab ord) ord.length e f fuel (ord.length:Int) (l:Int) (Ab P)=cond (Er l (ord.length - l) (WU n ord)) Y (r0 0 false [])
 | 0,_,_,_,h,_,_,_,_,_=>by omega
 | fuel+1,l,P,hlo,hf,hK,hP,h1,h2,h3=>by
  rw[Fo,J5]
  by_cases hlt:l<ord.length
  ·have e1:ord.length - l=(ord.length - (l+1))+1:=by omega
   rw[Kc (by omega),cond_true,A8 hlt,cond_true,Gn hlt,e1,O4]
   unfold WU
   by_cases a1:ord.getD l 0<0
   ·rw[Kc a1,decide_eq_false (show ¬ 0≤ord.getD l 0 by omega)];rfl
   ·rw[Ja a1,decide_eq_true (show 0≤ord.getD l 0 by omega)]
    by_cases a2:ord.getD l 0<(n:Int)
    ·rw[Kc a2,decide_eq_false (show ¬ ord.getD l 0≥(n:Int) by omega)]
     simp only[cond_true,cond_false,beq_self_eq_true,Bool.true_and]
     obtain⟨z,hz⟩:∃ z:Nat,ord.getD l 0=(z:Int):=⟨_,(HY (r:=ord) (k:=l) (by omega) a2).1⟩
     have hzz:(ord.getD l 0).toNat=z:=by omega
     have hzn:z<n:=by omega
     rw[hz,A8 hzn,cond_true,Fu (by omega)]
     by_cases hin:(z:Int) ∈ ord.take l
     ·obtain⟨k,hk,hkl,hke⟩:=WV hin
      have:=h1 k hk
      rw[hke,Int.toNat_natCast] at this
      rw[this,decide_eq_true hin,decide_eq_true (show(k:Int)≥0 by omega)]
      rfl
     ·have hpk:WU n ord l=true:=by
       unfold WU
       rw[hz,decide_eq_true (show(0:Int)≤(z:Int) by omega),decide_eq_true (show(z:Int)<(n:Int) by omega),decide_eq_false hin];rfl
      rw[h2 z hzn hin,decide_eq_false hin,decide_eq_false (show ¬ (-1:Int)≥0 by omega)]
      simp only[cond_true,cond_false,Bool.not_false,Bool.true_and]
      rw[aZ (x:=z) (by rw[Ci];omega),cond_true,UV,wS (by omega)]
      refine YU hn hl fuel (l+1) (P.set z l) (by omega) (by omega) (fun h=>hK (by rw[e1,O4,hpk,h];rfl)) (by simpa using hP) (fun k hk=>?_) (fun x hx hxm=>?_) (fun k hk=>?_)
      ·rw[K8 (by omega)]
       by_cases hkl:k=l
       ·subst hkl;rw[hzz,if_pos rfl]
       ·have hkk:k<l:=by omega
        rw[if_neg,h1 k hkk]
        intro e
        have:=PR (l:=ord) (k:=k) (m:=l) (by omega) hkk
        have h0:=h3 k hkk
        have e2:ord.getD k 0=(z:Int):=by omega
        rw[e2] at this
        exact hin this
      ·rw[Cv (getD_some hlt),hz] at hxm
       simp only[List.mem_append,List.mem_singleton,not_or] at hxm
       rw[K8 (by omega),if_neg (by omega)]
       exact h2 x hx hxm.1
      ·by_cases hkl:k=l
       ·subst hkl;omega
       ·exact h3 k (by omega)
    ·rw[Ja a2,decide_eq_true (show ord.getD l 0≥(n:Int) by omega)];rfl
  ·have:l=ord.length:=by omega
   subst this
   rw[Ja (by omega),cond_false,Nat.sub_self,Sc,cond_true]
   exact hK (by rw[Nat.sub_self];rfl) P ⟨hP,h1⟩
theorem YV {N n:Nat} {ord:List Int} {e f:Bool} {r0:Nat→Bool→LA→O R} {Y:O R} (hN:2000≤N) (hn:n≤1000) (hl:ord.length≤1000) (hK:Er 0 ord.length (WU n ord)=true→∀ P,SD n ord P→r0 n true (Ab P)=Y) :
  ∀ (fuel i:Nat) (P:List Int),i≤n→n - i<fuel→P.length=n→(∀ x:Nat,x<i→P.getD x 0=-1) →
   D8 N r0 (Ab ord) ord.length e f (n:Int) fuel n (n:Int) (i:Int) (Ab P)=cond (Er 0 ord.length (WU n ord)) Y (r0 0 false [])
 | 0,_,_,_,h,_,_=>by omega
 | fuel+1,i,P,hi,hf,hP,h1=>by
  rw[D8,J6]
  by_cases hlt:i<n
  ·rw[Kc (by omega),cond_true,A8 hlt,cond_true,M_ (x:=i) (by rw[Ci];omega),cond_true,UV,wS (by omega)]
   refine YV hN hn hl hK fuel (i+1) _ (by omega) (by omega) (by simpa using hP) (fun x hx=>?_)
   rw[K8 (by omega)]
   by_cases hxi:x=i
   ·rw[if_pos hxi]
   ·rw[if_neg hxi];exact h1 x (by omega)
  ·have:i=n:=by omega
   subst this
   rw[Ja (by omega),cond_false]
   have:=YU (N:=N) (e:=e) (f:=f) (r0:=r0) (Y:=Y) hn hl N 0 P (Nat.zero_le _) (by omega) (by rw[Nat.sub_zero];exact hK) hP (fun k h=>by omega) (fun x hx _=>h1 x hx) (fun k h=>by omega)
   rw[Nat.sub_zero] at this
   exact this
theorem XZ (n:Nat):List.replicate n (AV.int .i64 0)=Ab (List.replicate n 0):=by simp[Ab]
theorem Zq {N n:Nat} {ord:List Int} {e f:Bool} {r0:Nat→Bool→LA→O R} {Y:O R} (hN:2000≤N) (hn:n≤1000) (hl:ord.length≤1000) (hK:pG n ord=true→∀ P,SD n ord P→r0 n true (Ab P)=Y) :
  Fd N (Ab ord) ord.length e f (n:Int) r0=cond (pG n ord) Y (r0 0 false []):=by
 rw[P7,Ku]
 unfold pG at hK ⊢
 by_cases hne:ord.length=n
 ·have e1:(((ord.length:Nat):Int) != (n:Int))=false:=by simp[hne]
  rw[e1,cond_false,decide_eq_true hne,Bool.true_and]
  have hb:(decide (0≤((n:Nat):Int))&&(decide (((n:Nat):Int)≤((n:Nat):Int))&&(decide (((n:Nat):Int)≤140737488355328)&&decide (((n:Nat):Int)*((8:Nat):Int)≤140737488355328))))=true:=by simp;omega
  rw[hb,cond_true,Int.toNat_natCast,XZ]
  exact YV hN hn hl (fun h=>hK (by rw[decide_eq_true hne,h];rfl)) N 0 (List.replicate n 0) (Nat.zero_le _) (by omega) (by simp) (fun k h=>by omega)
 ·have e1:(((ord.length:Nat):Int) != (n:Int))=true:=by simp;omega
  rw[e1,cond_true,decide_eq_false hne];rfl
end
end Gx

namespace Gx
open Go
open IntKind (wrap)
section
variable {R:Type}
def K9 (n:Nat) (f:Nat→Bool):LA:=(List.range n).map fun j=>AV.bool (f j)
def TB (n k:Nat) (A:Nat→Nat→Bool):LA:=(List.range n).map fun i=>if i<k then Bo (K9 n (A i)) n 1 else AV.nsl
def W3 (A:Nat→Nat→Bool) (x y:Nat) (b:Bool):Nat→Nat→Bool:=fun i j=>if i=x∧j=y then b else A i j
theorem UW (n:Nat) (f:Nat→Bool):(K9 n f).length=n:=by simp[K9]
theorem O5 {n k:Nat} {A B:Nat→Nat→Bool} (h:∀ i j,i<k→i<n→j<n→A i j=B i j):TB n k A=TB n k B:=by
 unfold TB
 refine List.map_congr_left (fun i hi=>?_)
 have hi:=List.mem_range.1 hi
 by_cases hk:i<k
 ·rw[if_pos hk,if_pos hk];congr 1
  unfold K9
  exact List.map_congr_left (fun j hj=>by rw[h i j hk hi (List.mem_range.1 hj)])
 ·rw[if_neg hk,if_neg hk]
theorem Cq {n k i:Nat} {A:Nat→Nat→Bool} (hk:i<k) (hi:i<n) (K:LA→Nat→O R):C4 1 (TB n k A) i K=K (K9 n (A i)) n:=by
 unfold C4
 rw[List.head?_drop]
 simp[TB,hi,hk,Qz,Bo]
theorem TJ {n j:Nat} {f:Nat→Bool} (hj:j<n) (K:Bool→O R):aR ((K9 n f).drop (((j:Nat):Int).toNat*1)) K=K (f j):=by
 unfold aR
 rw[Int.toNat_natCast,Nat.mul_one,List.head?_drop]
 simp[K9,hj,asBool]
theorem UX {n j:Nat} {f:Nat→Bool} {b:Bool}:(K9 n f).set j (.bool b)=K9 n (fun x=>if x=j then b else f x):=by
 apply List.ext_getElem?
 intro i
 unfold K9
 rw[List.getElem?_set]
 by_cases hi:i<n
 ·by_cases e:j=i
  ·subst e;simp[hi]
  ·simp[e,hi,Ne.symm e]
 ·by_cases e:j=i
  ·subst e;simp[hi]
  ·simp[e,hi]
theorem WW {n k i j:Nat} {A:Nat→Nat→Bool} {b:Bool} (hk:i<k) (hi:i<n):(TB n k A).set i (Bo ((K9 n (A i)).set (((j:Nat):Int).toNat*1) (.bool b)) n 1)=TB n k (W3 A i j b):=by
 rw[Int.toNat_natCast,Nat.mul_one,UX]
 apply List.ext_getElem?
 intro m
 unfold TB
 rw[List.getElem?_set]
 by_cases e:i=m
 ·subst e
  simp[hi,hk]
  congr 1
  unfold K9
  exact List.map_congr_left (fun x _=>by unfold W3;simp)
 ·rw[if_neg e]
  by_cases hm:m<n
  ·simp[hm]
   split
   ·congr 1
    unfold K9
    exact List.map_congr_left (fun x _=>by unfold W3;simp[Ne.symm e])
   ·rfl
  ·simp[hm]
theorem aH {n k:Nat} {A:Nat→Nat→Bool} (hk:k<n) (h:∀ j,A k j=false):(TB n k A).set k (Bo (List.take (n*1) (List.replicate n (AV.bool false))) n 1)=TB n (k+1) A:=by
 apply List.ext_getElem?
 intro m
 unfold TB
 rw[List.getElem?_set]
 by_cases e:k=m
 ·subst e
  simp[hk]
  congr 1
  apply List.ext_getElem?
  intro x
  unfold K9
  by_cases hx:x<n<;>simp[hx,h]
 ·rw[if_neg e]
  by_cases hm:m<n
  ·simp[hm]
   by_cases h1:m<k
   ·rw[if_pos h1,if_pos (by omega)]
   ·rw[if_neg h1,if_neg (by omega)]
  ·simp[hm]
theorem bR (n:Nat) (A:Nat→Nat→Bool):List.replicate n AV.nsl=TB n 0 A:=by
 apply List.ext_getElem?
 intro m
 unfold TB
 by_cases hm:m<n<;>simp[hm]
theorem a_ {n j:Nat} {f:Nat→Bool} (h:j<n):Nat.blt (((j:Nat):Int).toNat*1) (K9 n f).length=true:=by
 rw[UW,Int.toNat_natCast,Nat.mul_one];simp[Nat.blt];omega
def VG (rows:List (List Int)) (f l:Nat) (i j:Nat):Bool:=(decide (i<f)&&Aw rows i j)||(decide (i=f)&&decide ((j:Int) ∈ (Ah rows f).take l))
theorem YW {N f:Nat} {rows:List (List Int)} {c:LA} {d e:Bool} {k0:Int→LA→O R} {r0:LA→O R} (hc:GR c rows) (hn:rows.length≤1000) (hv:vG rows=true) (hf:f<rows.length) :
  ∀ (fuel l:Nat),l≤(Ah rows f).length→(Ah rows f).length - l<fuel→G4 N k0 r0 c rows.length d e fuel (f:Int) (l:Int) (TB rows.length (f+1) (VG rows f l))=k0 ((f+1:Nat):Int) (TB rows.length (f+1) (VG rows f (Ah rows f).length))
 | 0,_,_,h=>by omega
 | fuel+1,l,hl,hfu=>by
  have hrl:=V9 hv f
  rw[G4,O1,A8 hf,cond_true,Jl hc hf]
  by_cases hlt:l<(Ah rows f).length
  ·obtain⟨x,hx,hxn,_,_⟩:=Yj hv (List.mem_of_getElem? (getD_some hlt))
   rw[Kc (by omega),cond_true,cond_true,Int.toNat_natCast,Cq (by omega) hf,←Int.toNat_natCast f,Jl hc hf,A8 hlt,cond_true,Gn hlt,hx,A8 hxn,cond_true,Int.toNat_natCast f,Cq (by omega) hf,a_ hxn,cond_true,WW (by omega) hf,wS (by omega)]
   have:TB rows.length (f+1) (W3 (VG rows f l) f x true)=TB rows.length (f+1) (VG rows f (l+1)):=O5 (fun i j hi _ _=>by
    unfold W3 VG
    rw[Cv (getD_some hlt),hx]
    by_cases e1:i=f
    ·subst e1
     by_cases e2:j=x
     ·subst e2;simp
     ·have:¬ (j:Int)=(x:Int):=by omega
      simp[e2,this]
    ·simp[e1])
   rw[this]
   exact YW hc hn hv hf fuel (l+1) (by omega) (by omega)
  ·have:l=(Ah rows f).length:=by omega
   subst this
   rw[Ja (by omega),cond_false,wS (by omega)]
theorem YX {N:Nat} {rows:List (List Int)} {c:LA} {d e:Bool} {r0:LA→O R} (hN:2000≤N) (hc:GR c rows) (hn:rows.length≤1000) (hv:vG rows=true) :
  ∀ (fuel g:Nat),g≤rows.length→rows.length - g<fuel→Fg N r0 c rows.length d e fuel (g:Int) (TB rows.length g (VG rows g 0))=r0 (TB rows.length rows.length (Aw rows))
 | 0,_,_,h=>by omega
 | fuel+1,g,hg,hfu=>by
  rw[Fg,O2]
  by_cases hlt:g<rows.length
  ·have hb:(decide (0≤((rows.length:Nat):Int))&&(decide (((rows.length:Nat):Int)≤((rows.length:Nat):Int))&&(decide (((rows.length:Nat):Int)≤140737488355328)&&decide (((rows.length:Nat):Int)*((1:Nat):Int)≤140737488355328))))=true:=by simp;omega
   have hb2:Nat.ble 1 rows.length=true:=by simp;omega
   have hrl:=V9 hv g
   rw[Kc (by omega),cond_true,hb,cond_true,A8 hlt,cond_true,hb2,cond_true,Int.toNat_natCast,aH hlt (by intro j;simp[VG])]
   refine Eq.trans (YW hc hn hv hlt N 0 (Nat.zero_le _) (by omega)) ?_
   have:TB rows.length (g+1) (VG rows g (Ah rows g).length)=TB rows.length (g+1) (VG rows (g+1) 0):=O5 (fun i j hi _ _=>by
    unfold VG
    rw[List.take_length]
    by_cases e1:i=g
    ·subst e1;simp[Aw]
    ·have:i<g:=by omega
     have h2:¬ i=g+1:=by omega
     simp[e1,this,hi,h2])
   rw[this]
   exact YX hN hc hn hv fuel (g+1) (by omega) (by omega)
  ·have:g=rows.length:=by omega
   subst this
   rw[Ja (by omega),cond_false]
   congr 1
   exact O5 (fun i j hi _ _=>by unfold VG;simp[hi])
theorem WX {N:Nat} {rows:List (List Int)} {c:LA} {d e:Bool} {r0:LA→O R} (hN:2000≤N) (hc:GR c rows) (hn:rows.length≤1000) (hv:vG rows=true):Mj N c rows.length d e r0=r0 (TB rows.length rows.length (Aw rows)):=by
 rw[Xu,R8]
 have hb:(decide (0≤((rows.length:Nat):Int))&&(decide (((rows.length:Nat):Int)=((rows.length:Nat):Int))&&(decide (((rows.length:Nat):Int)≤140737488355328)&&decide (((rows.length:Nat):Int)*((24:Nat):Int)≤140737488355328))))=true:=by simp;omega
 rw[hb,cond_true,bR rows.length (VG rows 0 0)]
 exact YX hN hc hn hv N 0 (Nat.zero_le _) (by omega)
end
end Gx

namespace Gx
open Go
open IntKind (wrap)
section
variable {R:Type}
theorem TK {n j:Nat} {f:Nat→Bool} (h:j<n):Nat.blt (j*1) (K9 n f).length=true:=by
 have:=a_ (f:=f) h
 rwa [Int.toNat_natCast] at this
theorem EN {n k i j:Nat} {A:Nat→Nat→Bool} {b:Bool} (hk:i<k) (hi:i<n):(TB n k A).set i (Bo ((K9 n (A i)).set (j*1) (.bool b)) n 1)=TB n k (W3 A i j b):=by
 have:=WW (A:=A) (j:=j) (b:=b) hk hi
 rwa [Int.toNat_natCast] at this
def Zr (A:Nat→Nat→Bool) (v a b:Nat) (i j:Nat):Bool:=A i j||(A v i&&A v j&&((decide (i<a)&&decide (j<a)&&decide (i≠j))||(decide (i=a)&&decide (j<b))||(decide (j=a)&&decide (i<b))))
theorem YY {A:Nat→Nat→Bool} (hA:Gr A) {v a b x:Nat}:Zr A v a b v x=A v x:=by unfold Zr;simp[hA.irr]
theorem aI {A:Nat→Nat→Bool} {v a b:Nat} (h:b<a):Zr A v a b a b=A a b:=by
 unfold Zr;simp;omega
theorem bA {A:Nat→Nat→Bool} {v a b:Nat} (h:(A v a&&(A v b&&!A a b))=true) (hba:b<a):∀ i j,W3 (W3 (Zr A v a b) a b true) b a true i j=Zr A v a (b+1) i j:=by
 intro i j
 simp only[Bool.and_eq_true] at h
 obtain⟨h1,h2,h3⟩:=h
 unfold W3 Zr
 by_cases e1:i=b∧j=a
 ·obtain⟨rfl,rfl⟩:=e1
  simp[h1,h2]
 ·rw[if_neg e1]
  by_cases e2:i=a∧j=b
  ·obtain⟨rfl,rfl⟩:=e2
   simp[h1,h2]
  ·rw[if_neg e2]
   congr 2
   congr 1
   ·congr 1
    by_cases e3:i=a
    ·have:j≠b:=fun e=>e2 ⟨e3,e⟩
     simp[e3];omega
    ·simp[e3]
   ·by_cases e3:j=a
    ·have:i≠b:=fun e=>e1 ⟨e,e3⟩
     simp[e3];omega
    ·simp[e3]
theorem bB {A:Nat→Nat→Bool} (hA:Gr A) {v a b:Nat} (h:(A v a&&(A v b&&!A a b))=false):∀ i j,Zr A v a b i j=Zr A v a (b+1) i j:=by
 intro i j
 unfold Zr
 have hs:=hA.sym a b
 by_cases e1:i=a
 ·subst e1
  by_cases e2:j=b
  ·subst e2
   cases h1:A v i<;>cases h2:A v j<;>cases h3:A i j<;>simp_all
  ·have:decide (j<b+1)=decide (j<b):=by by_cases h:j<b<;>simp[h]<;>omega
   rw[this]
   by_cases e3:j=i
   ·subst e3
    by_cases h5:j<b
    ·simp[h5]
    ·simp[h5,this]
   ·simp[e3]
 ·by_cases e2:j=a
  ·subst e2
   by_cases e3:i=b
   ·subst e3
    cases h1:A v i<;>cases h2:A v j<;>cases h3:A i j<;>simp_all
   ·have:decide (i<b+1)=decide (i<b):=by by_cases h:i<b<;>simp[h]<;>omega
    rw[this];simp[e1]
  ·simp[e1,e2]
theorem aJ {A:Nat→Nat→Bool} {v a:Nat}:∀ i j,Zr A v a a i j=Zr A v (a+1) 0 i j:=by
 intro i j
 unfold Zr
 congr 2
 by_cases e1:i=a
 ·subst e1
  by_cases e2:j=i
  ·subst e2;simp
  ·have:¬ i=i+1:=by omega
   simp[e2]
   by_cases h:j<i
   ·simp[h];omega
   ·simp[h];omega
 ·by_cases e2:j=a
  ·subst e2
   simp[e1]
   by_cases h:i<j
   ·simp[h];omega
   ·simp[h];omega
  ·simp[e1,e2]
   by_cases h:i<a<;>by_cases h2:j<a<;>simp[h,h2]<;>omega
theorem PS (a:Nat) (A:Nat→Nat→Bool) (v:Nat):A6 (a+1) A v=A6 a A v++(if A v a then [a] else []):=by
 unfold A6
 rw[List.range_succ,List.filter_append]
 congr 1
 cases h:A v a<;>simp[h]
theorem PT (A:Nat→Nat→Bool) (w:Nat):∀ (l pre:List Nat),D2 A pre (l++[w])=D2 A pre l+(pre++l).countP (fun x=>!A w x)
 | [],pre=>by simp[D2]
 | x::l,pre=>by
  rw[List.cons_append,D2,D2,PT A w l (pre++[x])]
  simp;omega
def SE (A:Nat→Nat→Bool) (v a b:Nat):Nat:=if A v a then (A6 b A v).countP (fun x=>!A a x) else 0
theorem WY (A:Nat→Nat→Bool) (v a b:Nat):SE A v a (b+1)=SE A v a b+if (A v a&&(A v b&&!A a b)) then 1 else 0:=by
 unfold SE
 rw[PS,List.countP_append]
 cases h1:A v a<;>cases h2:A v b<;>cases h3:A a b<;>simp[h3]
theorem WZ (A:Nat→Nat→Bool) (v a:Nat):D2 A [] (A6 (a+1) A v)=D2 A [] (A6 a A v)+SE A v a a:=by
 rw[PS]
 unfold SE
 cases h1:A v a with
 | true=>simp only[if_true];rw[PT];simp
 | false=>simp
theorem Oj (n:Nat) (A:Nat→Nat→Bool) (v:Nat):(A6 n A v).length≤n:=by unfold A6;exact Nat.le_trans (List.length_filter_le _ _) (by simp)
theorem W_ (A:Nat→Nat→Bool) (v a b:Nat):SE A v a b≤b:=by
 unfold SE
 split
 ·exact Nat.le_trans List.countP_le_length (Oj _ _ _)
 ·omega
theorem YZ {N n v a:Nat} {A:Nat→Nat→Bool} {o:Nat} {k0:Int→Int→LA→O R} {r0:Int→LA→O R} (hA:Gr A) (hn:n≤1000) (hv:v<n) (ha:a<n) (ho:o≤1000000) :
  ∀ (fuel b:Nat),b≤a→a - b<fuel→Bi N k0 r0 n (v:Int) fuel ((o+SE A v a b:Nat):Int) (a:Int) (b:Int) (TB n n (Zr A v a b))=k0 ((o+SE A v a a:Nat):Int) ((a+1:Nat):Int) (TB n n (Zr A v a a))
 | 0,_,_,h=>by omega
 | fuel+1,b,hb,hf=>by
  rw[Bi,Gd]
  by_cases hlt:b<a
  ·have hbn:b<n:=by omega
   have had:=W_ A v a b
   have ih:=YZ (N:=N) (o:=o) (k0:=k0) (r0:=r0) hA hn hv ha ho fuel (b+1) (by omega) (by omega)
   rw[Kc (by omega),cond_true,A8 hv,cond_true,Int.toNat_natCast v,Cq hv hv,A8 ha,cond_true,Cq hv hv,TJ ha,YY hA]
   have no:(A v a&&(A v b&&!A a b))=false→Ch N k0 (Bi N k0 r0 n (v:Int) fuel) r0 n (v:Int) (a:Int) ((o+SE A v a b:Nat):Int) (b:Int) false (TB n n (Zr A v a b))=k0 ((o+SE A v a a:Nat):Int) ((a+1:Nat):Int) (TB n n (Zr A v a a)):=by
    intro h
    unfold Ch
    rw[cond_false,wS (by omega),←ih,WY,h]
    have:TB n n (Zr A v a b)=TB n n (Zr A v a (b+1)):=O5 (fun i j _ _ _=>bB hA h i j)
    rw[this];rfl
   cases h1:A v a with
   | false=>exact no (by rw[h1];rfl)
   | true =>
    simp only[beq_self_eq_true,cond_true]
    rw[Cq hv hv,A8 hbn,cond_true,Cq hv hv,TJ hbn,YY hA]
    cases h2:A v b with
    | false=>exact no (by rw[h2];simp)
    | true =>
     simp only[beq_self_eq_true,cond_true]
     rw[Int.toNat_natCast a,Cq ha ha,A8 hbn,cond_true,Cq ha ha,TJ hbn,aI hlt]
     cases h3:A a b with
     | true=>exact no (by rw[h3];simp)
     | false =>
      have hh:(A v a&&(A v b&&!A a b))=true:=by rw[h1,h2,h3];rfl
      simp only[Bool.not_false]
      unfold Ch
      simp only[Int.toNat_natCast]
      rw[cond_true,A8 ha,cond_true,Cq ha ha,A8 hbn,cond_true,Cq hbn hbn,cond_true,Cq ha ha,TK hbn,cond_true,A8 ha,cond_true,EN ha ha,Cq hbn hbn,TK ha,cond_true,EN hbn hbn,wS (by omega),MX (by omega) (by omega)]
      have:TB n n (W3 (W3 (Zr A v a b) a b true) b a true)=TB n n (Zr A v a (b+1)):=O5 (fun i j _ _ _=>bA hh hlt i j)
      rw[this,←ih,WY,hh]
      congr 1
  ·have:b=a:=by omega
   subst this
   rw[Ja (by omega),cond_false,wS (by omega)]
def XR (A:Nat→Nat→Bool) (v m:Nat) (i j:Nat):Bool:=A i j&&!(decide (i=v)&&decide (j<m))&&!(decide (j=v)&&decide (i<m))
theorem bC {A:Nat→Nat→Bool} {v m:Nat}:∀ i j,W3 (W3 (XR A v m) v m false) m v false i j=XR A v (m+1) i j:=by
 intro i j
 unfold W3 XR
 by_cases e1:i=m∧j=v
 ·obtain⟨rfl,rfl⟩:=e1;simp
 ·rw[if_neg e1]
  by_cases e2:i=v∧j=m
  ·obtain⟨rfl,rfl⟩:=e2;simp
  ·rw[if_neg e2]
   by_cases e3:i=v
   ·have h1:j≠m:=fun e=>e2 ⟨e3,e⟩
    have:decide (j<m+1)=decide (j<m):=by by_cases h:j<m<;>simp[h]<;>omega
    rw[this]
    by_cases e4:j=v
    ·have h2:i≠m:=fun e=>e1 ⟨e,e4⟩
     have:decide (i<m+1)=decide (i<m):=by by_cases h:i<m<;>simp[h]<;>omega
     rw[this]
    ·simp[e4]
   ·by_cases e4:j=v
    ·have h2:i≠m:=fun e=>e1 ⟨e,e4⟩
     have:decide (i<m+1)=decide (i<m):=by by_cases h:i<m<;>simp[h]<;>omega
     rw[this];simp[e3]
    ·simp[e3,e4]
theorem Y_ {N n v:Nat} {A:Nat→Nat→Bool} {s:Int} {r0:Int→LA→O R} (hn:n≤1000) (hv:v<n) :
  ∀ (fuel m:Nat),m≤n→n - m<fuel→Da N r0 n (v:Int) fuel s (m:Int) (TB n n (XR A v m))=r0 s (TB n n (XR A v n))
 | 0,_,_,h=>by omega
 | fuel+1,m,hm,hf=>by
  rw[Da,Ge]
  by_cases hlt:m<n
  ·rw[Kc (by omega),cond_true,A8 hv,cond_true]
   simp only[Int.toNat_natCast]
   rw[Cq hv hv,A8 hlt,cond_true,Cq hlt hlt,cond_true,Cq hv hv,TK hlt,cond_true,A8 hv,cond_true,EN hv hv,Cq hlt hlt,TK hv,cond_true,EN hlt hlt,wS (by omega)]
   have:TB n n (W3 (W3 (XR A v m) v m false) m v false)=TB n n (XR A v (m+1)):=O5 (fun i j _ _ _=>bC i j)
   rw[this]
   exact Y_ hn hv fuel (m+1) (by omega) (by omega)
  ·have:m=n:=by omega
   subst this
   rw[Ja (by omega),cond_false]
theorem SF (A:Nat→Nat→Bool) (v:Nat):∀ a:Nat,a≤1000→D2 A [] (A6 a A v)≤1000*a
 | 0,_=>by simp[A6,D2]
 | a+1,h=>by
  rw[WZ]
  have:=SF A v a (by omega)
  have:=W_ A v a a
  omega
theorem G7 (A:Nat→Nat→Bool) (v i j:Nat):Bt A v i j=(!decide (i=v)&&!decide (j=v)&&(A i j||(!decide (i=j)&&(A v i&&A v j)))):=by
 unfold Bt
 have h:∀ x y:Nat,(x != y)=!decide (x=y):=fun x y=>by
  by_cases e:x=y
  ·subst e;simp
  ·rw[decide_eq_false e];simpa using e
 rw[h,h,h]
theorem Y' {N n v:Nat} {A:Nat→Nat→Bool} {r0:Int→LA→O R} (hN:2000≤N) (hA:Gr A) (hn:n≤1000) (hv:v<n) :
  ∀ (fuel a:Nat),a≤n→n - a<fuel→Bj N r0 n (v:Int) fuel ((D2 A [] (A6 a A v):Nat):Int) (a:Int) (TB n n (Zr A v a 0))=r0 ((D2 A [] (A6 n A v):Nat):Int) (TB n n (Bt A v))
 | 0,_,_,h=>by omega
 | fuel+1,a,ha,hf=>by
  rw[Bj,Gf]
  by_cases hlt:a<n
  ·have hle:=SF A v a (by omega)
   have h0:SE A v a 0=0:=by unfold SE;simp[A6]
   have:=YZ (N:=N) (o:=D2 A [] (A6 a A v)) (k0:=Bj N r0 n (v:Int) fuel) (r0:=r0) hA hn hv hlt (by omega) N 0 (Nat.zero_le _) (by omega)
   rw[h0,Nat.add_zero] at this
   rw[Kc (by omega),cond_true]
   refine Eq.trans this ?_
   rw[←WZ]
   have e:TB n n (Zr A v a a)=TB n n (Zr A v (a+1) 0):=O5 (fun i j _ _ _=>aJ i j)
   rw[e]
   exact Y' hN hA hn hv fuel (a+1) (by omega) (by omega)
  ·have:a=n:=by omega
   subst this
   rw[Ja (by omega),cond_false]
   have e:TB a a (Zr A v a 0)=TB a a (XR (Zr A v a 0) v 0):=O5 (fun i j _ _ _=>by unfold XR;simp)
   rw[e]
   refine Eq.trans (Y_ hn hv N 0 (Nat.zero_le _) (by omega)) ?_
   congr 1
   refine O5 (fun i j hi _ hj=>?_)
   have hia:¬ i=a:=by omega
   have hja:¬ j=a:=by omega
   rw[G7]
   unfold XR Zr
   simp only[hi,hj,hia,hja,decide_true,decide_false,Bool.and_true,Bool.true_and,Bool.and_false,Bool.or_false]
   by_cases e1:i=v<;>by_cases e2:j=v<;>by_cases e3:i=j<;>simp[e1,e2,e3]
theorem UY {N n v:Nat} {A:Nat→Nat→Bool} {r0:Int→LA→O R} (hN:2000≤N) (hA:Gr A) (hn:n≤1000) (hv:v<n):Dn N n (v:Int) (TB n n A) r0=r0 ((D2 A [] (A6 n A v):Nat):Int) (TB n n (Bt A v)):=by
 rw[K4,F5]
 have:=Y' (r0:=r0) hN hA hn hv N 0 (Nat.zero_le _) (by omega)
 have e:TB n n A=TB n n (Zr A v 0 0):=O5 (fun i j _ _ _=>by unfold Zr;simp)
 rw[e]
 exact this
def SG (l:List Nat):AV:=if l=[] then AV.nsl else Bo (Ab (Ap l)) l.length 1
def HB (n:Nat) (L:Nat→List Nat):LA:=(List.range n).map fun i=>SG (L i)
theorem PU {n i:Nat} {L:Nat→List Nat} (hi:i<n) (K:LA→Nat→O R):C4 1 (HB n L) i K=K (Ab (Ap (L i))) (L i).length:=by
 unfold C4
 rw[List.head?_drop]
 unfold HB SG
 by_cases h:L i=[]<;>simp[hi,h,Qz,Bo,Ab,Ap]
theorem aK {n i g:Nat} {L:Nat→List Nat} (hi:i<n):((HB n L).set i .undef).set i (Bo (List.take (((L i).length+1)*1) ((Ab (Ap (L i))).take ((L i).length*1)++[AV.int .i64 (g:Int)])) ((L i).length+1) 1)=HB n (fun x=>if x=i then L i++[g] else L x):=by
 rw[List.set_set]
 apply List.ext_getElem?
 intro m
 unfold HB
 rw[List.getElem?_set]
 by_cases e:i=m
 ·subst e
  simp[hi]
  unfold SG
  rw[if_neg (by simp)]
  have h1:(Ab (Ap (L i))).length=(L i).length:=by rw[Ci,A2]
  rw[←h1,List.take_length,List.take_of_length_le (by simp)]
  simp[Bo,Ab,Ap]
 ·rw[if_neg e]
  by_cases hm:m<n<;>simp[hm,Ne.symm e]
theorem IB {n:Nat} {L M:Nat→List Nat} (h:∀ i,i<n→L i=M i):HB n L=HB n M:=by
 unfold HB
 exact List.map_congr_left (fun i hi=>by rw[h i (List.mem_range.1 hi)])
theorem bS (n:Nat):List.replicate n AV.nsl=HB n (fun _=>[]):=by
 apply List.ext_getElem?
 intro m
 unfold HB SG
 by_cases hm:m<n<;>simp[hm]
theorem aL (n:Nat) (L:Nat→List Nat):(HB n L).all E'=true:=by
 unfold HB
 rw[List.all_map,List.all_eq_true]
 intro x _
 simp only[Function.comp,SG]
 split<;>rfl
def Il (n:Nat) (A:Nat→Nat→Bool):List (List Int):=(List.range n).map fun i=>Ap (A6 n A i)
theorem Eb (n:Nat) (A:Nat→Nat→Bool):(Il n A).length=n:=by simp[Il]
theorem bD (n:Nat) (A:Nat→Nat→Bool):GR (HB n (A6 n A)) (Il n A):=by
 refine⟨by simp[HB,Il],fun i r hr=>?_⟩
 have hi:=(List.getElem?_eq_some_iff.1 hr).1
 rw[Eb] at hi
 unfold Il at hr
 simp[hi] at hr
 subst hr
 refine⟨SG (A6 n A i),by simp[HB,hi],?_⟩
 unfold SG
 by_cases h:A6 n A i=[]<;>simp[h,Qz,Bo,Ap,Ab]
def QF (n:Nat) (A:Nat→Nat→Bool) (f g:Nat) (i:Nat):List Nat:=if i<f then A6 n A i else if i=f then A6 g A i else []
theorem ZA {N n f:Nat} {A:Nat→Nat→Bool} {k0:Int→LA→O R} {r0:LA→O R} (hn:n≤1000) (hf:f<n) :
  ∀ (fuel g:Nat),g≤n→n - g<fuel→Ct N k0 r0 n (TB n n A) fuel (f:Int) (g:Int) (HB n (QF n A f g))=k0 ((f+1:Nat):Int) (HB n (QF n A f n))
 | 0,_,_,h=>by omega
 | fuel+1,g,hg,hfu=>by
  rw[Ct,Hf]
  by_cases hlt:g<n
  ·have ih:=ZA (N:=N) (A:=A) (k0:=k0) (r0:=r0) hn hf fuel (g+1) (by omega) (by omega)
   rw[Kc (by omega),cond_true,A8 hf,cond_true]
   simp only[Int.toNat_natCast f]
   rw[Cq hf hf,A8 hlt,cond_true,Cq hf hf,TJ hlt,wS (by omega)]
   have hgl:QF n A f g f=A6 g A f:=by unfold QF;rw[if_neg (by omega),if_pos rfl]
   cases h:A f g with
   | true =>
    have hle:=Oj g A f
    have hb:(Nat.ble ((A6 g A f).length+1) 140737488355328&&Nat.ble (((A6 g A f).length+1)*8) 140737488355328)=true:=by simp;omega
    have hb2:Nat.ble 1 ((A6 g A f).length+1)=true:=by simp
    have hset:=aK (n:=n) (g:=g) (L:=QF n A f g) hf
    rw[hgl] at hset
    rw[cond_true,cond_true,PU hf,PU hf,hgl,hb,cond_true,cond_true,hb2,cond_true,hset,←ih]
    congr 1
    refine IB (fun i hi=>?_)
    by_cases e:i=f
    ·subst e
     rw[if_pos rfl];unfold QF;rw[if_neg (by omega),if_pos rfl,PS,h];rfl
    ·rw[if_neg e];unfold QF;simp[e]
   | false =>
    rw[cond_false,←ih]
    congr 1
    refine IB (fun i hi=>?_)
    unfold QF
    by_cases e:i=f
    ·subst e
     rw[if_neg (by omega),if_pos rfl,if_neg (by omega),if_pos rfl,PS,h];simp
    ·simp[e]
  ·have:g=n:=by omega
   subst this
   rw[Ja (by omega),cond_false,wS (by omega)]
theorem ZB {N n:Nat} {A:Nat→Nat→Bool} {r0:LA→O R} (hN:2000≤N) (hn:n≤1000) :
  ∀ (fuel f:Nat),f≤n→n - f<fuel→B5 N r0 n (TB n n A) fuel (f:Int) (HB n (QF n A f 0))=r0 (HB n (A6 n A))
 | 0,_,_,h=>by omega
 | fuel+1,f,hf,hfu=>by
  rw[B5,Hg]
  by_cases hlt:f<n
  ·rw[Kc (by omega),cond_true]
   refine Eq.trans (ZA hn hlt N 0 (Nat.zero_le _) (by omega)) ?_
   have:HB n (QF n A f n)=HB n (QF n A (f+1) 0):=IB (fun i hi=>by
    unfold QF
    by_cases e:i=f
    ·subst e;rw[if_neg (by omega),if_pos rfl,if_pos (by omega)]
    ·by_cases h:i<f
     ·rw[if_pos h,if_pos (by omega)]
     ·rw[if_neg h,if_neg e,if_neg (by omega)];simp[A6])
   rw[this]
   exact ZB hN hn fuel (f+1) (by omega) (by omega)
  ·have:f=n:=by omega
   subst this
   rw[Ja (by omega),cond_false,aL]
   have:HB f (QF f A f 0)=HB f (A6 f A):=IB (fun i hi=>by unfold QF;rw[if_pos hi])
   rw[this];rfl
theorem IC {N n:Nat} {A:Nat→Nat→Bool} {r0:LA→O R} (hN:2000≤N) (hn:n≤1000):Ea N n (TB n n A) r0=r0 (HB n (A6 n A)):=by
 rw[Lt,G5]
 have hb:(decide (0≤((n:Nat):Int))&&(decide (((n:Nat):Int)=((n:Nat):Int))&&(decide (((n:Nat):Int)≤140737488355328)&&decide (((n:Nat):Int)*((24:Nat):Int)≤140737488355328))))=true:=by simp;omega
 rw[hb,cond_true,bS]
 have:=ZB (A:=A) (r0:=r0) hN hn N 0 (Nat.zero_le _) (by omega)
 have e:HB n (fun _=>[])=HB n (QF n A 0 0):=IB (fun i hi=>by unfold QF;simp[A6])
 rw[e];exact this
end
end Gx

namespace Gx
open Go
open IntKind (wrap)
section
variable {R:Type}
def Nq (ord:List Int):List Nat:=ord.map Int.toNat
theorem XA {n:Nat} {ord:List Int} (h:pG n ord=true):ord=Ap (Nq ord)∧(Nq ord).length=n∧(∀ x ∈ Nq ord,x<n)∧(Nq ord).Nodup:=by
 unfold pG at h
 rw[Bool.and_eq_true,E4] at h
 obtain⟨h1,h2⟩:=h
 have h1:=of_decide_eq_true h1
 have h3:∀ x ∈ ord,0≤x∧x<(n:Int):=by
  intro x hx
  obtain⟨k,hk,rfl⟩:=HZ hx
  have:=h2 k (Nat.zero_le _) (by omega)
  simp only[WU,Bool.and_eq_true,decide_eq_true_eq] at this
  exact⟨this.1,this.2.1⟩
 refine⟨?_,by simp[Nq,h1],?_,?_⟩
 ·unfold Ap Nq
  rw[List.map_map]
  conv=>lhs;rw[←List.map_id ord]
  exact List.map_congr_left (fun x hx=>by have:=h3 x hx;simp[Function.comp];omega)
 ·intro x hx
  unfold Nq at hx
  obtain⟨y,hy,rfl⟩:=List.mem_map.1 hx
  have:=h3 y hy;omega
 ·unfold Nq
  have hnd:ord.Nodup:=by
   unfold List.Nodup
   rw[List.pairwise_iff_getElem]
   intro i j hi hj hij e
   have:=h2 j (Nat.zero_le _) (by omega)
   simp only[WU,Bool.and_eq_true,decide_eq_true_eq,Bool.not_eq_true',decide_eq_false_iff_not] at this
   refine this.2.2 ?_
   have h4:=PR (l:=ord) hi hij
   have ei:=getD_some hi
   have ej:=getD_some hj
   rw[List.getElem?_eq_getElem hi] at ei
   rw[List.getElem?_eq_getElem hj] at ej
   injection ei with ei
   injection ej with ej
   rw[←ej,←e,ei];exact h4
  unfold List.Nodup
  rw[List.pairwise_map]
  refine List.Pairwise.imp_of_mem (R:=(·≠·)) (fun {a b} ha hb hab=>?_) hnd
  have:=h3 a ha;have:=h3 b hb;omega
def Hq (n:Nat) (A:Nat→Nat→Bool):List Nat→Nat
 | []=>0
 | v::r=>D2 A [] (A6 n A v)+Hq n (Bt A v) r
def XS (rows:List (List Int)) (v:Int):List (List Int)×Int :=
 if vG rows=true then (if 0≤v∧v<(rows.length:Int) then (Il rows.length (Bt (Aw rows) v.toNat),0) else ([],3)) else ([],1)
def aS (rows:List (List Int)) (ord:List Int):Int×Int :=
 if vG rows=true then (if pG rows.length ord=true then ((Hq rows.length (Aw rows) (Nq ord):Nat),0) else (0,11)) else (0,1)
theorem BA:GR [] []:=⟨rfl,fun i r h=>by simp at h⟩
def GB (n:Nat) (k:Nat) (A:Nat→Nat→Bool):LA:=(List.range n).map fun i=>if i<k then Bo (Ab (Ap (A6 n A i))) (A6 n A i).length 1 else AV.nsl
theorem XB (n k:Nat) (A:Nat→Nat→Bool):(GB n k A).length=n:=by simp[GB]
theorem bT (n:Nat) (A:Nat→Nat→Bool):List.replicate n AV.nsl=GB n 0 A:=by
 apply List.ext_getElem?
 intro m
 unfold GB
 by_cases hm:m<n<;>simp[hm]
theorem aM {n k:Nat} {A:Nat→Nat→Bool} (hk:k<n):(GB n k A).set (0+((k:Nat):Int).toNat*1) (.imm ((Ab (Ap (A6 n A k))).take ((A6 n A k).length*1)) (A6 n A k).length 1 false false)=GB n (k+1) A:=by
 rw[Int.toNat_natCast,Nat.zero_add,Nat.mul_one,Nat.mul_one,List.take_of_length_le (by rw[Ci,A2];exact Nat.le_refl _)]
 apply List.ext_getElem?
 intro m
 unfold GB
 rw[List.getElem?_set]
 by_cases e:k=m
 ·subst e;simp[hk,Bo]
 ·rw[if_neg e]
  by_cases hm:m<n
  ·simp[hm]
   by_cases h1:m<k
   ·rw[if_pos h1,if_pos (by omega)]
   ·rw[if_neg h1,if_neg (by omega)]
  ·simp[hm]
theorem bE (n:Nat) (A:Nat→Nat→Bool):GR (GB n n A) (Il n A):=by
 refine⟨by simp[GB,Il],fun i r hr=>?_⟩
 have hi:=(List.getElem?_eq_some_iff.1 hr).1
 rw[Eb] at hi
 unfold Il at hr
 simp[hi] at hr
 subst hr
 exact⟨Bo (Ab (Ap (A6 n A i))) (A6 n A i).length 1,by simp[GB,hi],by simp[Qz,Bo,A2]⟩
theorem NA {N n v:Nat} {A:Nat→Nat→Bool} {S:List (List Int)} {r0:Nat→LA→LA→O R} (hn:n≤1000) (hv:v<n) (hS:Sets n (fun i j=>A i j=true) S) :
  Ee N n (v:Int) (SA S) r0=r0 (A6 n A v).length (SA S) (Ab (Ap (A6 n A v))):=by
 rw[Cp,Cs]
 obtain⟨l,hl⟩:=hS.get hv
 obtain⟨h1,h2⟩:=hS.sort hl
 have hlen:=Oj n A v
 have hall:(Ab l).all Zb=true:=by
  rw[List.all_eq_true]
  intro x hx
  unfold Ab at hx
  obtain⟨m,hm,rfl⟩:=List.mem_map.1 hx
  obtain⟨j,rfl,hj,_⟩:=((hS.2 v l hl).2 m).1 hm
  simp[Zb];omega
 have hsl:Tf (Ab l)=Ab (Ap (A6 n A v)):=by unfold Tf;rw[P4,h1]
 rw[A8 hv,cond_true]
 simp only[Int.toNat_natCast]
 rw[Sb hl,hall,Ci,h2,hsl]
 have hble:Nat.ble (A6 n A v).length 16777216=true:=by simp;omega
 rw[hble,Bool.and_self,cond_true]
theorem ZC {N n:Nat} {A:Nat→Nat→Bool} {S:List (List Int)} {r0:LA→LA→O R} (hn:n≤1000) (hS:Sets n (fun i j=>A i j=true) S) :
  ∀ (fuel c:Nat),c≤n→n - c<fuel→Dm N r0 n fuel (n:Int) (c:Int) (SA S) (GB n c A)=r0 (SA S) (GB n n A)
 | 0,_,_,h=>by omega
 | fuel+1,c,hc,hf=>by
  rw[Dm,Iz]
  by_cases hlt:c<n
  ·rw[Kc (by omega),cond_true,NA hn hlt hS,A8 hlt,cond_true,M_ (x:=c) (by rw[XB];exact hlt),cond_true,wS (by omega),aM hlt]
   exact ZC hn hS fuel (c+1) (by omega) (by omega)
  ·have:c=n:=by omega
   subst this
   rw[Ja (by omega),cond_false]
theorem JI {N n:Nat} {A:Nat→Nat→Bool} {S:List (List Int)} {r0:LA→LA→O R} (hN:2000≤N) (hn:n≤1000) (hS:Sets n (fun i j=>A i j=true) S):Fy N n (SA S) r0=r0 (SA S) (GB n n A):=by
 rw[Od,I0]
 have hb:(decide (0≤((n:Nat):Int))&&(decide (((n:Nat):Int)≤((n:Nat):Int))&&(decide (((n:Nat):Int)≤140737488355328)&&decide (((n:Nat):Int)*((24:Nat):Int)≤140737488355328))))=true:=by simp;omega
 rw[hb,cond_true,bT n A]
 exact ZC hn hS N 0 (Nat.zero_le _) (by omega)
theorem EH {N:Nat} {rows:List (List Int)} {d:LA} {f e:Bool} {v:Int} {r0:LA→Nat→Int→O R} {Y:O R} (hN:2000≤N) (hd:GR d rows) (hn:rows.length≤1000) (hrl:∀ j,(Ah rows j).length≤1000)
  (hK:∀ c,GR c (XS rows v).1→r0 c (XS rows v).1.length (XS rows v).2=Y):G0 N d rows.length f e v r0=Y:=by
 rw[Qe,Ow,Oi hN hd hn hrl]
 unfold XS at hK
 cases hv:vG rows with
 | false=>rw[hv] at hK;exact hK [] BA
 | true =>
  rw[hv] at hK
  simp only[if_true] at hK
  rw[Bool.not_true,cond_false]
  by_cases h0:v<0
  ·rw[Kc h0];rw[if_neg (by omega)] at hK;exact hK [] BA
  ·rw[Ja h0]
   simp only[beq_self_eq_true,cond_true]
   by_cases h1:v<(rows.length:Int)
   ·rw[decide_eq_false (show ¬ v≥(rows.length:Int) by omega)]
    simp only[cond_false]
    rw[if_pos ⟨by omega,h1⟩] at hK
    obtain⟨w,rfl⟩:∃ w:Nat,v=(w:Int):=⟨v.toNat,by omega⟩
    rw[Int.toNat_natCast] at hK
    rw[Sd hN hd hn hv]
    refine Mb (Qy hv) hn hN (by omega) (EM hv) (fun S' hS'=>?_)
    rw[JI hN hn hS',Nat.mul_one,List.take_of_length_le (by rw[XB];exact Nat.le_refl _)]
    have:=hK _ (bE rows.length (Bt (Aw rows) w))
    rw[Eb] at this
    exact this
   ·rw[decide_eq_true (show v≥(rows.length:Int) by omega)]
    rw[if_neg (by omega)] at hK;exact hK [] BA
theorem BB {N:Nat} {rows:List (List Int)} {d:LA} {f e:Bool} {v:Int} {r0:LA→Nat→Int→O R} {Y:O R} (hN:2000≤N) (hd:GR d rows) (hn:rows.length≤1000) (hrl:∀ j,(Ah rows j).length≤1000)
  (hK:∀ c,GR c (XS rows v).1→r0 c (XS rows v).1.length (XS rows v).2=Y):Hl N d rows.length f e v r0=Y:=by
 rw[Of,Nj,MZ hN hd hn hrl]
 unfold XS at hK
 cases hv:vG rows with
 | false=>rw[hv] at hK;exact hK [] BA
 | true =>
  rw[hv] at hK
  simp only[if_true] at hK
  rw[Bool.not_true,cond_false]
  by_cases h0:v<0
  ·rw[Kc h0];rw[if_neg (by omega)] at hK;exact hK [] BA
  ·rw[Ja h0]
   simp only[beq_self_eq_true,cond_true]
   by_cases h1:v<(rows.length:Int)
   ·rw[decide_eq_false (show ¬ v≥(rows.length:Int) by omega)]
    simp only[cond_false]
    rw[if_pos ⟨by omega,h1⟩] at hK
    obtain⟨w,rfl⟩:∃ w:Nat,v=(w:Int):=⟨v.toNat,by omega⟩
    rw[Int.toNat_natCast] at hK
    rw[WX hN hd hn hv,UY hN (Qy hv) hn (by omega),IC hN hn]
    have:=hK _ (bD rows.length (Bt (Aw rows) w))
    rw[Eb] at this
    exact this
   ·rw[decide_eq_true (show v≥(rows.length:Int) by omega)]
    rw[if_neg (by omega)] at hK;exact hK [] BA
theorem BC {α:Type} {l:List α} {g:Nat} {x:α} (h:l[g]?=some x):l.drop g=x::l.drop (g+1):=by
 obtain⟨h1,h2⟩:=List.getElem?_eq_some_iff.1 h
 rw[List.drop_eq_getElem_cons h1,h2]
theorem Bu {o:List Nat} {g x:Nat} (h:o[g]?=some x):(Ap o).getD g 0=(x:Int):=by
 rw[List.getD_eq_getElem?_getD,HU h];rfl
theorem TL {n:Nat} (hn:n≤1000) (A:Nat→Nat→Bool) (v:Nat):D2 A [] (A6 n A v)≤1000000:=by
 have:=SF A v n hn
 omega
theorem ZD {N n:Nat} {o:List Nat} {f e:Bool} {r0:Int→Int→O R} (hN:2000≤N) (hn:n≤1000) (hl:o.length≤1000) (ho:∀ x ∈ o,x<n) :
  ∀ (fuel g:Nat) (i:Nat) (A:Nat→Nat→Bool) (S:List (List Int)),g≤o.length→o.length - g<fuel→Gr A→Sets n (fun i j=>A i j=true) S→i≤1000000*g →
   J7 N r0 n (Ab (Ap o)) (Ap o).length f e fuel (i:Int) ((Ap o).length:Int) (g:Int) (SA S)=r0 ((i+Hq n A (o.drop g):Nat):Int) 0
 | 0,_,_,_,_,_,h,_,_,_=>by omega
 | fuel+1,g,i,A,S,hg,hf,hA,hS,hi=>by
  have hlen:=A2 o
  rw[J7,Vv]
  by_cases hlt:g<o.length
  ·obtain⟨x,hx⟩:∃ x,o[g]?=some x:=⟨_,List.getElem?_eq_getElem hlt⟩
   have hxn:=ho x (List.mem_of_getElem? hx)
   have hc:=TL hn A x
   rw[Kc (by omega),cond_true,A8 (by omega),cond_true,Gn (by omega),Bu hx]
   refine Mb hA hn hN hxn hS (fun S' hS'=>?_)
   rw[wS (by omega),MX (by omega) (by omega)]
   have:=ZD (f:=f) (e:=e) (r0:=r0) hN hn hl ho fuel (g+1) (i+D2 A [] (A6 n A x)) (Bt A x) S' (by omega) (by omega) (K7 hA x) hS' (by omega)
   rw[BC hx,Hq,←Nat.add_assoc]
   rw[←this]
   congr 1
  ·have:g=o.length:=by omega
   subst this
   rw[Ja (by omega),cond_false,List.drop_length];rfl
theorem Nr {N:Nat} {rows:List (List Int)} {ord:List Int} {d:LA} {q p f e:Bool} {r0:Int→Int→O R} (hN:2000≤N) (hd:GR d rows) (hn:rows.length≤1000) (hrl:∀ j,(Ah rows j).length≤1000) (hl:ord.length≤1000) :
  F4 N d rows.length q p (Ab ord) ord.length f e r0=r0 (aS rows ord).1 (aS rows ord).2:=by
 rw[CP,Zd,Oi hN hd hn hrl]
 unfold aS
 cases hv:vG rows with
 | false=>rfl
 | true =>
  rw[Bool.not_true,cond_false]
  simp only[if_true]
  refine Eq.trans (Zq (Y:=r0 (Hq rows.length (Aw rows) (Nq ord):Nat) 0) hN hn hl (fun hp P _=>?_)) ?_
  ·rw[Bool.not_true,cond_false,Sd hN hd hn hv]
   obtain⟨h1,h2,h3,h4⟩:=XA hp
   have:=ZD (N:=N) (f:=f) (e:=e) (r0:=r0) (n:=rows.length) (o:=Nq ord) hN hn (by omega) h3 N 0 0 (Aw rows) rows (Nat.zero_le _) (by omega) (Qy hv) (EM hv) (Nat.zero_le _)
   rw[←h1,List.drop_zero,Nat.zero_add] at this
   exact this
  ·cases pG rows.length ord<;>rfl
end
end Gx

namespace Gx
open Go
open IntKind (wrap)
section
variable {R:Type}
theorem NB:∀ (n:Nat) (o:List Nat),o.Nodup→(∀ x ∈ o,x<n)→o.length≤n
 | 0,[],_,_=>Nat.le_refl _
 | 0,x::o,_,h=>absurd (h x List.mem_cons_self) (by omega)
 | n+1,o,hn,h=>by
  by_cases hm:n ∈ o
  ·have h1:=NB n (o.erase n) (hn.erase n) (fun x hx=>by
    have:=(hn.mem_erase_iff.1 hx)
    have:=h x this.2
    omega)
   rw[List.length_erase_of_mem hm] at h1
   omega
  ·have h1:=NB n o hn (fun x hx=>by
    have:=h x hx
    have:x≠n:=fun e=>hm (e▸hx)
    omega)
   omega
theorem aN {n:Nat} {o:List Nat} (hn:o.Nodup) (h:∀ x ∈ o,x<n) (hl:o.length=n) {y:Nat} (hy:y<n):y ∈ o:=by
 cases Decidable.em (y ∈ o) with
 | inl h=>exact h
 | inr hm =>
  have:=NB n (y::o) (List.nodup_cons.2 ⟨hm,hn⟩) (fun x hx=>by
   rcases List.mem_cons.1 hx with rfl | hx
   ·exact hy
   ·exact h x hx)
  simp at this;omega
def JJ (A:Nat→Nat→Bool) (v:Nat) (Gv:List Nat):Int:=match Gv.find? (A v) with | some w=>(w:Int) | none=>-1
def La (A:Nat→Nat→Bool):List Nat→List Int→List Int
 | [],P=>P
 | v::r,P=>La (Bt A v) r (P.set v (JJ A v r))
def aO (rows:List (List Int)) (ord:List Int):List Int×Int :=
 if vG rows=true then (if pG rows.length ord=true then (La (Aw rows) (Nq ord) (List.replicate rows.length 0),0) else ([],11)) else ([],1)
def PV (Q:List Int) (cur:Int) (w:Nat):Int:=if cur<0 then (w:Int) else if Q.getD w 0<Q.getD cur.toNat 0 then (w:Int) else cur
theorem XC {N n m:Nat} {Q P:List Int} {nb:List Nat} {d w:LA} {c:Nat} {f e:Bool} {i:Int} {t:Nat} {k0:Int→Int→LA→LA→O R} {r0:Nat→Int→LA→O R} (hn:n≤1000) (hQ:Q.length=n) (hP:P.length=n) (hm:m<n) (hnb:∀ x ∈ nb,x<n) (hl:nb.length≤1000) (ht:t≤1000) :
  ∀ (fuel r:Nat) (cur:Int),r≤nb.length→nb.length - r<fuel→cur<(n:Int) →
   H1 N k0 r0 n n (m:Int) d c f e i nb.length (Ab Q) w (Ab (Ap nb)) fuel (t:Int) (nb.length:Int) (r:Int) (Ab (P.set m cur))=k0 i ((t+1:Nat):Int) w (Ab (P.set m ((nb.drop r).foldl (PV Q) cur)))
 | 0,_,_,_,h,_=>by omega
 | fuel+1,r,cur,hr,hf,hc=>by
  rw[H1,Vt]
  by_cases hlt:r<nb.length
  ·obtain⟨x,hx⟩:∃ x,nb[r]?=some x:=⟨_,List.getElem?_eq_getElem hlt⟩
   have hxn:=hnb x (List.mem_of_getElem? hx)
   have hPl:(P.set m cur).length=n:=by simpa using hP
   have hcur:(P.set m cur).getD m 0=cur:=by rw[K8 (by omega),if_pos rfl]
   have hset:∀ y:Int,(P.set m cur).set m y=P.set m y:=fun y=>List.set_set ..
   have hnl:=A2 nb
   rw[Kc (by omega),cond_true,A8 hlt,cond_true,Fu (by omega),Bu hx,A8 hm,cond_true,Fu (by omega),hcur,BC hx,List.foldl_cons]
   have put:(cond (Nat.beq 1 1&&(Nat.ble (0+(m:Int).toNat*1+1) (Ab (P.set m cur)).length&&!false)) (H1 N k0 r0 n n (m:Int) d c f e i nb.length (Ab Q) w (Ab (Ap nb)) fuel (t:Int) (nb.length:Int) (wrap .i64 ((r:Int)+1)) ((Ab (P.set m cur)).set (0+(m:Int).toNat*1) (.int .i64 (x:Int)))) none)=k0 i ((t+1:Nat):Int) w (Ab (P.set m ((nb.drop (r+1)).foldl (PV Q) (x:Int)))):=by
    rw[M_ (x:=m) (by rw[Ci,hPl];exact hm),cond_true,UV,hset,wS (by omega)]
    exact XC hn hQ hP hm hnb hl ht fuel (r+1) (x:Int) (by omega) (by omega) (by omega)
   by_cases h0:cur<0
   ·rw[Kc h0]
    have:PV Q cur x=(x:Int):=by unfold PV;rw[if_pos h0]
    rw[this]
    exact put
   ·rw[Ja h0]
    simp only[beq_self_eq_true,cond_true]
    obtain⟨y,rfl⟩:∃ y:Nat,cur=(y:Int):=⟨cur.toNat,by omega⟩
    have hy:y<n:=by omega
    rw[A8 hxn,cond_true,Fu (by omega),Fu (by omega),hcur,A8 hy,cond_true,Fu (by omega)]
    by_cases h1:Q.getD x 0<Q.getD y 0
    ·rw[decide_eq_true h1]
     have:PV Q (y:Int) x=(x:Int):=by unfold PV;rw[if_neg h0,Int.toNat_natCast,if_pos h1]
     rw[this]
     exact put
    ·rw[decide_eq_false h1]
     have:PV Q (y:Int) x=(y:Int):=by unfold PV;rw[if_neg h0,Int.toNat_natCast,if_neg h1]
     rw[this]
     simp only[cond_false]
     rw[wS (by omega)]
     exact XC hn hQ hP hm hnb hl ht fuel (r+1) (y:Int) (by omega) (by omega) (by omega)
  ·have:r=nb.length:=by omega
   subst this
   rw[Ja (by omega),cond_false,List.drop_length,wS (by omega)];rfl
theorem NC {Q:List Int}:∀ (l:List Nat) (c:Nat),∃ b:Nat,l.foldl (PV Q) (c:Int)=(b:Int)∧(b=c∨b ∈ l)∧Q.getD b 0≤Q.getD c 0∧∀ x ∈ l,Q.getD b 0≤Q.getD x 0
 | [],c=>⟨c,rfl,.inl rfl,Int.le_refl _,fun x hx=>by cases hx⟩
 | w::l,c=>by
  rw[List.foldl_cons]
  by_cases h:Q.getD w 0<Q.getD c 0
  ·have:PV Q (c:Int) w=(w:Int):=by unfold PV;rw[if_neg (by omega),Int.toNat_natCast,if_pos h]
   rw[this]
   obtain⟨b,h1,h2,h3,h4⟩:=NC (Q:=Q) l w
   refine⟨b,h1,.inr ?_,by omega,fun x hx=>?_⟩
   ·rcases h2 with rfl | h2
    ·exact List.mem_cons_self
    ·exact List.mem_cons_of_mem _ h2
   ·rcases List.mem_cons.1 hx with rfl | hx
    ·exact h3
    ·exact h4 x hx
  ·have:PV Q (c:Int) w=(c:Int):=by unfold PV;rw[if_neg (by omega),Int.toNat_natCast,if_neg h]
   rw[this]
   obtain⟨b,h1,h2,h3,h4⟩:=NC (Q:=Q) l c
   refine⟨b,h1,?_,h3,fun x hx=>?_⟩
   ·rcases h2 with rfl | h2
    ·exact .inl rfl
    ·exact .inr (List.mem_cons_of_mem _ h2)
   ·rcases List.mem_cons.1 hx with rfl | hx
    ·omega
    ·exact h4 x hx
theorem XD {n v:Nat} {A:Nat→Nat→Bool} {Q:List Int} {Gv:List Nat} (hpos:Gv.Pairwise (fun a b=>Q.getD a 0<Q.getD b 0)) (hin:∀ x ∈ A6 n A v,x ∈ Gv) (hlt:∀ x ∈ Gv,x<n) :
  (A6 n A v).foldl (PV Q) (-1)=JJ A v Gv:=by
 unfold JJ
 cases hfind:Gv.find? (A v) with
 | none =>
  have hno:A6 n A v=[]:=by
   apply List.eq_nil_iff_forall_not_mem.2
   intro x hx
   have:=List.find?_eq_none.1 hfind x (hin x hx)
   exact this (Bn.1 hx).2
  rw[hno];rfl
 | some w =>
  obtain⟨hw,l1,l2,hr,has⟩:=List.find?_eq_some_iff_append.1 hfind
  have hwm:w ∈ A6 n A v:=Bn.2 ⟨hlt w (by rw[hr];simp),hw⟩
  cases hnb:A6 n A v with
  | nil=>rw[hnb] at hwm;cases hwm
  | cons c l =>
   rw[List.foldl_cons]
   have:PV Q (-1) c=(c:Int):=by unfold PV;rw[if_pos (by omega)]
   rw[this]
   obtain⟨b,h1,h2,h3,h4⟩:=NC (Q:=Q) l c
   rw[h1]
   have hbm:b ∈ A6 n A v:=by
    rw[hnb]
    rcases h2 with rfl | h2
    ·exact List.mem_cons_self
    ·exact List.mem_cons_of_mem _ h2
   have hbw:Q.getD b 0≤Q.getD w 0:=by
    rw[hnb] at hwm
    rcases List.mem_cons.1 hwm with rfl | h
    ·exact h3
    ·exact h4 w h
   have hbr:=hin b hbm
   rw[hr] at hbr hpos
   rcases List.mem_append.1 hbr with h | h
   ·have:=has b h
    rw[(Bn.1 hbm).2] at this;cases this
   ·rcases List.mem_cons.1 h with rfl | h
    ·rfl
    ·have h5:=(List.pairwise_cons.1 (List.pairwise_append.1 hpos).2.1).1 b h
     omega
theorem SH {A:Nat→Nat→Bool} (hA:Gr A) {x v y:Nat} (h:∀ y,A x y=false):Bt A v x y=false:=by
 rw[G7,h,hA.sym v x,h];simp
theorem SI (A:Nat→Nat→Bool) (v y:Nat):Bt A v v y=false:=by rw[G7];simp
theorem ID {o:List Nat} {g v x:Nat} (hv:o[g]?=some v) (hx:x ∈ o.take (g+1)):x ∈ o.take g∨x=v:=by
 rw[Cv hv] at hx
 rcases List.mem_append.1 hx with h | h
 ·exact .inl h
 ·exact .inr (List.mem_singleton.1 h)
theorem ZE {N n:Nat} {o:List Nat} {Q:List Int} {f e:Bool} {r0:Nat→Int→LA→O R} (hN:2000≤N) (hn:n≤1000) (ho:∀ x ∈ o,x<n) (hnd:o.Nodup) (hol:o.length=n) (hQ:SD n (Ap o) Q) :
  ∀ (fuel g:Nat) (A:Nat→Nat→Bool) (S:List (List Int)) (P:List Int),g≤n→n - g<fuel→Gr A→Sets n (fun i j=>A i j=true) S→P.length=n→(∀ x ∈ o.take g,∀ y,A x y=false) →
   H2 N r0 n n (Ab (Ap o)) (Ap o).length f e (Ab Q) fuel ((Ap o).length:Int) (g:Int) (SA S) (Ab P)=r0 n 0 (Ab (La A (o.drop g) P))
 | 0,_,_,_,_,_,h,_,_,_,_=>by omega
 | fuel+1,g,A,S,P,hg,hf,hA,hS,hP,hgone=>by
  have hlen:=A2 o
  rw[H2,Vu]
  by_cases hlt:g<n
  ·obtain⟨v,hv⟩:∃ v,o[g]?=some v:=⟨_,List.getElem?_eq_getElem (by omega)⟩
   have hvn:=ho v (List.mem_of_getElem? hv)
   have hnl:=Oj n A v
   rw[Kc (by omega),cond_true,A8 (by omega),cond_true,Gn (by omega),Bu hv,A8 hvn,cond_true,M_ (x:=v) (by rw[Ci,hP];exact hvn),cond_true,UV]
   refine Mb hA hn hN hvn hS (fun S' hS'=>?_)
   refine Eq.trans (XC (t:=g) hn hQ.1 hP hvn (fun x hx=>(Bn.1 hx).1) (by omega) (by omega) N 0 (-1) (Nat.zero_le _) (by omega) (by omega)) ?_
   have hrest:(A6 n A v).foldl (PV Q) (-1)=JJ A v (o.drop (g+1)):=by
    refine XD ?_ (fun x hx=>?_) (fun x hx=>ho x (List.mem_of_mem_drop hx))
    ·rw[List.pairwise_iff_getElem]
     intro a b ha hb hab
     have ea:o[g+1+a]?=some ((o.drop (g+1))[a]):=by rw[←List.getElem?_drop,List.getElem?_eq_getElem ha]
     have eb:o[g+1+b]?=some ((o.drop (g+1))[b]):=by rw[←List.getElem?_drop,List.getElem?_eq_getElem hb]
     have la:=(List.getElem?_eq_some_iff.1 ea).1
     have lb:=(List.getElem?_eq_some_iff.1 eb).1
     have qa:=hQ.2 (g+1+a) (by omega)
     have qb:=hQ.2 (g+1+b) (by omega)
     rw[Bu ea,Int.toNat_natCast] at qa
     rw[Bu eb,Int.toNat_natCast] at qb
     omega
    ·obtain⟨hxn,hxv⟩:=Bn.1 hx
     have hxo:=aN hnd ho hol hxn
     rw[←List.take_append_drop (g+1) o] at hxo
     rcases List.mem_append.1 hxo with h | h
     ·rcases ID hv h with h | rfl
      ·have:=hgone x h v
       rw[hA.sym] at this
       rw[this] at hxv;cases hxv
      ·rw[hA.irr] at hxv;cases hxv
     ·exact h
   rw[List.drop_zero,hrest]
   have:=ZE (f:=f) (e:=e) (r0:=r0) hN hn ho hnd hol hQ fuel (g+1) (Bt A v) S' (P.set v (JJ A v (o.drop (g+1)))) (by omega) (by omega) (K7 hA v) hS' (by simpa using hP) (fun x hx y=>by
    rcases ID hv hx with h | rfl
    ·exact SH hA (hgone x h)
    ·exact SI A x y)
   rw[BC hv,La]
   exact this
  ·have:g=n:=by omega
   subst this
   rw[Ja (by omega),cond_false,List.drop_of_length_le (by omega)];rfl
theorem Se:∀ (o:List Nat) (A:Nat→Nat→Bool) (P:List Int),(La A o P).length=P.length
 | [],A,P=>rfl
 | v::r,A,P=>by rw[La,Se];simp
theorem IE {N:Nat} {rows:List (List Int)} {ord:List Int} {d:LA} {q p f e:Bool} {r0:Nat→Int→LA→O R} (hN:2000≤N) (hd:GR d rows) (hn:rows.length≤1000) (hrl:∀ j,(Ah rows j).length≤1000) (hl:ord.length≤1000) :
  R3 N d rows.length q p (Ab ord) ord.length f e r0=r0 (aO rows ord).1.length (aO rows ord).2 (Ab (aO rows ord).1):=by
 rw[CN,Zc,Oi hN hd hn hrl]
 unfold aO
 cases hv:vG rows with
 | false=>rfl
 | true =>
  rw[Bool.not_true,cond_false]
  simp only[if_true]
  refine Eq.trans (Zq (Y:=r0 rows.length 0 (Ab (La (Aw rows) (Nq ord) (List.replicate rows.length 0)))) hN hn hl (fun hp P hP=>?_)) ?_
  ·have hb:(decide (0≤((rows.length:Nat):Int))&&(decide (((rows.length:Nat):Int)≤((rows.length:Nat):Int))&&(decide (((rows.length:Nat):Int)≤140737488355328)&&decide (((rows.length:Nat):Int)*((8:Nat):Int)≤140737488355328))))=true:=by simp;omega
   rw[Bool.not_true,cond_false,Sd hN hd hn hv,hb,cond_true,XZ]
   obtain⟨h1,h2,h3,h4⟩:=XA hp
   have hP':SD rows.length (Ap (Nq ord)) P:=by rw[←h1];exact hP
   have:=ZE (N:=N) (f:=f) (e:=e) (r0:=r0) (n:=rows.length) (o:=Nq ord) hN hn h3 h4 h2 hP' N 0 (Aw rows) rows (List.replicate rows.length 0) (Nat.zero_le _) (by omega) (Qy hv) (EM hv) (by simp) (fun x hx=>by cases hx)
   rw[←h1,List.drop_zero] at this
   exact this
  ·cases hp:pG rows.length ord with
   | true=>simp only[cond_true,if_true];rw[Se];simp
   | false=>rfl
end
end Gx

namespace Gx
open Go
open IntKind (wrap)
section
variable {R:Type}
def O6 (n:Nat) (A:Nat→Nat→Bool) (x:Nat):Nat:=(A6 n A x).length
def EO (n:Nat) (A:Nat→Nat→Bool) (b x:Nat):Nat:=if O6 n A x<O6 n A b then x else b
def ND (n:Nat):Nat→(Nat→Nat→Bool)→List Nat→List Nat
 | 0,_,_=>[]
 | _+1,_,[]=>[]
 | k+1,A,w::l=>l.foldl (EO n A) w::ND n k (Bt A (l.foldl (EO n A) w)) ((w::l).erase (l.foldl (EO n A) w))
def aP (rows:List (List Int)):List Int×Int :=
 if vG rows=true then (Ap (ND rows.length rows.length (Aw rows) (List.range rows.length)),0) else ([],1)
theorem NE (n:Nat) (A:Nat→Nat→Bool):∀ (l:List Nat) (w:Nat),l.foldl (EO n A) w=w∨l.foldl (EO n A) w ∈ l
 | [],w=>.inl rfl
 | x::l,w=>by
  rw[List.foldl_cons]
  rcases NE n A l (EO n A w x) with h | h
  ·rw[h];unfold EO
   by_cases h2:O6 n A x<O6 n A w
   ·rw[if_pos h2];exact .inr List.mem_cons_self
   ·rw[if_neg h2];exact .inl rfl
  ·exact .inr (List.mem_cons_of_mem _ h)
theorem XE {N n:Nat} {A:Nat→Nat→Bool} {S:List (List Int)} {left ord:List Nat} {k1:Nat→Nat→LA→LA→LA→O R} {r0:Nat→Int→LA→O R} {Y:O R} (hN:2000≤N) (hA:Gr A) (hn:n≤1000) (hS:Sets n (fun i j=>A i j=true) S) (hl:∀ x ∈ left,x<n) (hll:left.length≤1000) (hol:ord.length≤1000) :
  ∀ (fuel f m:Nat) (c:Nat),left[f]?=some c→m≤left.length→left.length - m<fuel →
   (∀ f' S' b,left[f']?=some b→b=(left.drop m).foldl (EO n A) c→Sets n (fun i j=>Bt A b i j=true) S'→k1 (left.length - 1) (ord.length+1) (SA S') (Ab (Ap (left.eraseIdx f'))) (Ab (Ap (ord++[b])))=Y) →
   D5 N k1 r0 n fuel left.length ord.length (f:Int) left.length (left.length:Int) (m:Int) (SA S) (Ab (Ap left)) (Ab (Ap ord))=Y
 | 0,_,_,_,_,_,h,_=>by omega
 | fuel+1,f,m,c,hc,hm,hf,hK=>by
  have hlen:=A2 left
  have hfl:=(List.getElem?_eq_some_iff.1 hc).1
  have hcn:=hl c (List.mem_of_getElem? hc)
  rw[D5,Jz]
  by_cases hlt:m<left.length
  ·obtain⟨x,hx⟩:∃ x,left[m]?=some x:=⟨_,List.getElem?_eq_getElem hlt⟩
   have hxn:=hl x (List.mem_of_getElem? hx)
   obtain⟨lx,hlx⟩:=hS.get hxn
   obtain⟨lc,hlc⟩:=hS.get hcn
   rw[Kc (by omega),cond_true,A8 hlt,cond_true,Fu (by omega),Bu hx,A8 hxn,cond_true]
   simp only[Int.toNat_natCast x]
   rw[Sb hlx,A8 hfl,cond_true,Fu (by omega),Bu hc,A8 hcn,cond_true]
   simp only[Int.toNat_natCast c]
   rw[Sb hlc,Ci,Ci,(hS.sort hlx).2,(hS.sort hlc).2,wS (by omega)]
   rw[BC hx] at hK
   by_cases h:O6 n A x<O6 n A c
   ·have e1:EO n A c x=x:=by unfold EO;rw[if_pos h]
    rw[decide_eq_true (show(((A6 n A x).length:Nat):Int)<(((A6 n A c).length:Nat):Int) by unfold O6 at h;omega),cond_true]
    refine XE hN hA hn hS hl hll hol fuel m (m+1) x hx (by omega) (by omega) (fun f' S' b h1 h2 h3=>hK f' S' b h1 ?_ h3)
    rw[h2,List.foldl_cons,e1]
   ·have e1:EO n A c x=c:=by unfold EO;rw[if_neg h]
    rw[decide_eq_false (show ¬ (((A6 n A x).length:Nat):Int)<(((A6 n A c).length:Nat):Int) by unfold O6 at h;omega),cond_false]
    refine XE hN hA hn hS hl hll hol fuel f (m+1) c hc (by omega) (by omega) (fun f' S' b h1 h2 h3=>hK f' S' b h1 ?_ h3)
    rw[h2,List.foldl_cons,e1]
  ·have:m=left.length:=by omega
   subst this
   rw[Ja (by omega),cond_false,A8 hfl,cond_true,Fu (by omega),Bu hc,wS (by omega),De,C9]
   have hall:((Ab (Ap left)).take left.length).all Zb=true:=by
    rw[List.all_eq_true]
    intro y hy
    have hy:=List.mem_of_mem_take hy
    unfold Ab Ap at hy
    obtain⟨z,hz,rfl⟩:=List.mem_map.1 hy
    obtain⟨w,hw,rfl⟩:=List.mem_map.1 hz
    have:=hl w hw
    simp[Zb];omega
   have hb:(decide ((0:Int)≤(f:Int))&&(decide ((f:Int)≤((f+1:Nat):Int))&&(decide (((f+1:Nat):Int)≤((left.length:Nat):Int))&&(Nat.ble 1 left.length&&(Nat.ble left.length 16777216&&((Ab (Ap left)).take left.length).all Zb)))))=true:=by
    rw[hall];simp;omega
   rw[hb,cond_true]
   have e1:left.length - (((f+1:Nat):Int) - (f:Int)).toNat=left.length - 1:=by omega
   have e2:(Ab (Ap left)).take ((f:Nat):Int).toNat++((Ab (Ap left)).take left.length).drop (((f+1:Nat):Int)).toNat=Ab (Ap (left.eraseIdx f)):=by
    rw[Int.toNat_natCast,Int.toNat_natCast,List.take_of_length_le (i:=left.length) (by rw[Ci,hlen];exact Nat.le_refl _),List.eraseIdx_eq_take_drop_succ]
    simp[Ab,Ap]
   rw[e1,e2]
   refine Mb hA hn hN hcn hS (fun S' hS'=>?_)
   have hb2:(Nat.ble (ord.length+1) 140737488355328&&Nat.ble ((ord.length+1)*8) 140737488355328)=true:=by simp;omega
   have e3:(Ab (Ap ord)).take (ord.length*1)++[AV.int .i64 (c:Int)]=Ab (Ap (ord++[c])):=by
    rw[Nat.mul_one,List.take_of_length_le (by rw[Ci,A2];exact Nat.le_refl _)]
    simp[Ab,Ap]
   rw[hb2,cond_true,e3]
   exact hK f S' c hc (by rw[List.drop_length];rfl) hS'
theorem PW:∀ {l:List Nat} {f b:Nat},l.Nodup→l[f]?=some b→l.eraseIdx f=l.erase b
 | [],f,b,_,h=>by simp at h
 | x::l,0,b,_,h=>by simp at h;subst h;simp
 | x::l,f+1,b,hn,h=>by
  have h1:l[f]?=some b:=by simpa using h
  have hne:x≠b:=fun e=>(List.nodup_cons.1 hn).1 (e▸List.mem_of_getElem? h1)
  rw[List.eraseIdx_cons_succ,List.erase_cons_tail (by simpa using hne),PW (List.nodup_cons.1 hn).2 h1]
theorem ZF {N n:Nat} {r0:Nat→Int→LA→O R} (hN:2000≤N) (hn:n≤1000) :
  ∀ (fuel:Nat) (left ord:List Nat) (A:Nat→Nat→Bool) (S:List (List Int)),left.length<fuel→Gr A→Sets n (fun i j=>A i j=true) S→(∀ x ∈ left,x<n)→left.Nodup→left.length+ord.length≤1000 →
   D6 N r0 n fuel left.length ord.length (SA S) (Ab (Ap left)) (Ab (Ap ord))=r0 (ord++ND n left.length A left).length 0 (Ab (Ap (ord++ND n left.length A left)))
 | 0,_,_,_,_,h,_,_,_,_,_=>by omega
 | fuel+1,left,ord,A,S,hf,hA,hS,hl,hnd,hol=>by
  rw[D6,J3]
  cases left with
  | nil =>
   rw[decide_eq_false (show ¬ ((([]:List Nat).length:Nat):Int)>0 by simp),cond_false]
   simp[ND]
  | cons w l =>
   rw[decide_eq_true (show(((w::l).length:Nat):Int)>0 by simp),cond_true]
   refine XE hN hA hn hS hl (by omega) (by omega) N 0 0 w rfl (Nat.zero_le _) (by omega) (fun f' S' b h1 h2 h3=>?_)
   rw[List.drop_zero,List.foldl_cons] at h2
   have e0:EO n A w w=w:=by unfold EO;split<;>rfl
   rw[e0] at h2
   obtain⟨h4,h5⟩:=List.getElem?_eq_some_iff.1 h1
   have e1:(w::l).eraseIdx f'=(w::l).erase b:=PW hnd h1
   have e2:((w::l).erase b).length=(w::l).length - 1:=List.length_erase_of_mem (List.mem_of_getElem? h1)
   have ih:=ZF (r0:=r0) hN hn fuel ((w::l).erase b) (ord++[b]) (Bt A b) S' (by rw[e2];simp at hf ⊢;omega) (K7 hA b) h3 (fun x hx=>hl x (List.mem_of_mem_erase hx)) (hnd.erase _) (by rw[e2];simp at hol ⊢;omega)
   rw[e1]
   rw[e2] at ih
   have e3:(ord++[b]).length=ord.length+1:=by simp
   rw[e3] at ih
   refine Eq.trans ih ?_
   have e4:(ord++[b])++ND n ((w::l).length - 1) (Bt A b) ((w::l).erase b)=ord++ND n (w::l).length A (w::l):=by
    rw[List.append_assoc,List.length_cons,Nat.add_sub_cancel,ND,←h2];rfl
   rw[e4]
theorem ZG {N n:Nat} {A:Nat→Nat→Bool} {S:List (List Int)} {c:LA} {e d:Bool} {r0:Nat→Int→LA→O R} (hN:2000≤N) (hn:n≤1000) (hA:Gr A) (hS:Sets n (fun i j=>A i j=true) S) :
  ∀ (fuel i:Nat) (v:List Int),i≤n→n - i<fuel→v.length=n→(∀ k:Nat,k<i→v.getD k 0=(k:Int)) →
   D7 N r0 c n e d (SA S) fuel (n:Int) (i:Int) (Ab v)=r0 (ND n n A (List.range n)).length 0 (Ab (Ap (ND n n A (List.range n))))
 | 0,_,_,_,h,_,_=>by omega
 | fuel+1,i,v,hi,hf,hv,hvk=>by
  rw[D7,J4]
  by_cases hlt:i<n
  ·rw[Kc (by omega),cond_true,A8 hlt,cond_true,M_ (x:=i) (by rw[Ci];omega),cond_true,UV,wS (by omega)]
   refine ZG hN hn hA hS fuel (i+1) _ (by omega) (by omega) (by simpa using hv) (fun k hk=>?_)
   rw[K8 (by omega)]
   by_cases hki:k=i
   ·rw[if_pos hki,hki]
   ·rw[if_neg hki];exact hvk k (by omega)
  ·have:i=n:=by omega
   subst this
   have e1:v=Ap (List.range i):=by
    apply List.ext_getElem?
    intro k
    by_cases hk:k<i
    ·rw[getD_some (by omega),hvk k hk];simp[Ap,hk]
    ·rw[List.getElem?_eq_none (by omega),List.getElem?_eq_none (by simp[Ap];omega)]
   have hb:(decide ((0:Int)≤(0:Int))&&(decide (0≤((i:Nat):Int))&&(decide (((i:Nat):Int)≤140737488355328)&&decide (((i:Nat):Int)*((8:Nat):Int)≤140737488355328))))=true:=by simp;omega
   rw[Ja (by omega),cond_false,hb,cond_true,e1]
   have:=ZF (r0:=r0) hN hn N (List.range i) [] A S (by simp;omega) hA hS (fun x hx=>List.mem_range.1 hx) List.nodup_range (by simp;omega)
   rw[List.nil_append,List.length_range] at this
   exact this
theorem Uh {N:Nat} {rows:List (List Int)} {d:LA} {f e:Bool} {r0:Nat→Int→LA→O R} (hN:2000≤N) (hd:GR d rows) (hn:rows.length≤1000) (hrl:∀ j,(Ah rows j).length≤1000) :
  Fc N d rows.length f e r0=r0 (aP rows).1.length (aP rows).2 (Ab (aP rows).1):=by
 rw[P5,Kt,Oi hN hd hn hrl]
 unfold aP
 cases hv:vG rows with
 | false=>rfl
 | true =>
  have hb:(decide (0≤((rows.length:Nat):Int))&&(decide (((rows.length:Nat):Int)≤((rows.length:Nat):Int))&&(decide (((rows.length:Nat):Int)≤140737488355328)&&(decide (((rows.length:Nat):Int)*((8:Nat):Int)≤140737488355328)&&Nat.beq 1 1))))=true:=by simp;omega
  rw[Bool.not_true,cond_false,Sd hN hd hn hv,hb,cond_true,XZ]
  simp only[if_true]
  rw[A2]
  exact ZG hN hn (Qy hv) (EM hv) N 0 _ (Nat.zero_le _) (by omega) (by simp) (fun k h=>by omega)
theorem bF {ord:List Nat} {g:Nat}:decide ((g:Int) ∈ Ap ord)=decide (g ∈ ord):=by
 have:(g:Int) ∈ Ap ord↔g ∈ ord:=by
  unfold Ap
  rw[List.mem_map]
  constructor
  ·rintro⟨x,hx,h⟩;have:x=g:=by omega
   exact this▸hx
  ·intro h;exact⟨g,h,rfl⟩
 by_cases h:g ∈ ord
 ·rw[decide_eq_true h,decide_eq_true (this.2 h)]
 ·rw[decide_eq_false h,decide_eq_false (fun h2=>h (this.1 h2))]
end
end Gx

namespace Gx
open Go
open IntKind (wrap)
section
variable {R:Type}
theorem ZH {N:Nat} {l:List Int} {f g i k:Bool} {r0:Bool→O R} (hl:l.length≤1000) :
  ∀ (fuel m:Nat),m≤l.length→l.length - m<fuel→D9 N r0 (Ab l) l.length f g (Ab l) l.length i k fuel (m:Int)=r0 true
 | 0,_,_,h=>by omega
 | fuel+1,m,hm,hf=>by
  rw[D9,J8]
  by_cases hlt:m<l.length
  ·rw[Kc (by omega),cond_true,A8 hlt,cond_true,Gn hlt,cond_true,Gn hlt]
   have:(l.getD m 0 != l.getD m 0)=false:=by simp
   rw[this,cond_false,wS (by omega)]
   exact ZH hl fuel (m+1) (by omega) (by omega)
  ·rw[Ja (by omega),cond_false]
theorem PX {N:Nat} {l:List Int} {f g i k:Bool} {r0:Bool→O R} (hN:2000≤N) (hl:l.length≤1000):Fe N (Ab l) l.length f g (Ab l) l.length i k r0=r0 true:=by
 rw[P9,Kv]
 have:(((l.length:Nat):Int) != ((l.length:Nat):Int))=false:=by simp
 rw[this,cond_false]
 exact ZH hl N 0 (Nat.zero_le _) (by omega)
theorem BD {n i:Nat} {A:Nat→Nat→Bool}:Ah (Il n A) i=if i<n then Ap (A6 n A i) else []:=by
 by_cases h:i<n
 ·rw[if_pos h];unfold Ah Il;rw[List.getD_eq_getElem?_getD];simp[h]
 ·rw[if_neg h];exact V8 (by rw[Eb];exact h)
theorem Sf {l:List Int}:(Ab l).take (l.length*1)=Ab l:=by
 rw[Nat.mul_one,List.take_of_length_le (by rw[Ci];exact Nat.le_refl _)]
theorem XF (v n:Int) (h1:1≤n) (h2:n≤4611686018427387904):(wrap .u64 n==0)=false∧0≤wrap .i64 (Int.tmod (wrap .u64 v) (wrap .u64 n))∧wrap .i64 (Int.tmod (wrap .u64 v) (wrap .u64 n))<n:=by
 have hn:wrap .u64 n=n:=by rw[IntKind.wrap_u64];omega
 have hv:0≤wrap .u64 v:=by rw[IntKind.wrap_u64];omega
 rw[hn]
 have h0:0≤Int.tmod (wrap .u64 v) n:=Int.tmod_nonneg _ hv
 have h3:Int.tmod (wrap .u64 v) n<n:=Int.tmod_lt_of_pos _ (by omega)
 rw[MX (by omega) (by omega)]
 exact⟨by simp;omega,h0,h3⟩
theorem Zs {N:Nat} {l:List Int} {t o:Bool} (hl:l.length≤9223372036854775807) (n:Int) (h1:1≤n) (h2:n≤4611686018427387904) (k:Nat) (hk:k≤l.length) :
  ∃ (v k':Nat),(v:Int)<n∧k'≤l.length∧∀ K:Int→Int→O R,Dd N n (Ab l) l.length t o (k:Int) K=K (v:Int) (k':Int):=by
 by_cases h:k<l.length
 ·obtain⟨a1,a2,a3⟩:=XF (l.getD k 0) n h1 h2
  refine⟨(wrap .i64 (Int.tmod (wrap .u64 (l.getD k 0)) (wrap .u64 n))).toNat,k+1,by omega,by omega,fun K=>?_⟩
  rw[Jx];unfold Kp
  have w0:wrap .i64 ((k:Int)+1)=((k+1:Nat):Int):=by rw[MX (by omega) (by omega)];omega
  have w1:wrap .i64 (wrap .i64 ((k:Int)+1) - 1)=(k:Int):=by rw[w0,MX (by omega) (by omega)];omega
  rw[w1,w0,A8 h,cond_true,Gn h,GV];unfold ML
  rw[a1,cond_false,decide_eq_false (show ¬ (k:Int)≥(l.length:Int) by omega),cond_false,Int.toNat_of_nonneg a2]
 ·refine⟨0,k,by omega,hk,fun K=>?_⟩
  rw[Jx];unfold Kp
  rw[decide_eq_true (show(k:Int)≥(l.length:Int) by omega),cond_true];rfl
theorem IF {N:Nat} {b:LA} {c:Nat} {d e:Bool} {r0:O R}:Ru N b c d e r0=r0:=by rw[GT];rfl
end
end Gx

namespace Gx
open Go
open IntKind (wrap)
section
variable {R:Type}
def Im (n:Nat) (o:List Nat):Prop:=o.Nodup∧(∀ x ∈ o,x<n)∧o.length=n
theorem UZ {i p:Nat} {o:List Nat} (h:Im i o) (hp:p≤i):Im (i+1) (o.take p++i::o.drop p):=by
 obtain⟨h1,h2,h3⟩:=h
 have hperm:(o.take p++i::o.drop p).Perm (i::o):=by
  have:=List.perm_middle (a:=i) (l₁:=o.take p) (l₂:=o.drop p)
  rw[List.take_append_drop] at this
  exact this
 refine⟨hperm.nodup_iff.2 (List.nodup_cons.2 ⟨fun hm=>by have:=h2 i hm;omega,h1⟩),fun x hx=>?_,by rw[hperm.length_eq];simp[h3]⟩
 have:=hperm.mem_iff.1 hx
 rcases List.mem_cons.1 this with rfl | h
 ·omega
 ·have:=h2 x h;omega
theorem TM {N n:Nat} {l:List Int} {d e:Bool} (hl:l.length≤9223372036854775807) (hn:n≤1000) :
  ∀ (r i:Nat) (fuel k:Nat) (o:List Nat),i+r=n→r<fuel→k≤l.length→Im i o →
   ∃ (o':List Nat) (k':Nat),Im n o'∧k'≤l.length∧∀ K:Nat→Int→LA→O R,C0 N K (n:Int) (Ab l) l.length d e fuel o.length (i:Int) (k:Int) (Ab (Ap o))=K n (k':Int) (Ab (Ap o'))
 | 0,i,fuel+1,k,o,hi,_,hk,ho=>by
  obtain rfl:i=n:=by omega
  refine⟨o,k,ho,hk,fun K=>?_⟩
  rw[C0,G6,Ja (by omega),cond_false,ho.2.2]
 | r+1,i,fuel+1,k,o,hi,hf,hk,ho=>by
  obtain⟨v,k',hv,hk',hK⟩:=Zs (R:=R) (N:=N) (l:=l) (t:=d) (o:=e) hl ((i+1:Nat):Int) (by omega) (by omega) k hk
  have hol:=ho.2.2
  have hlen:=A2 o
  obtain⟨o',k'',ho',hk'',hK'⟩:=TM hl hn r (i+1) fuel k' (o.take v++i::o.drop v) (by omega) (by omega) hk' (UZ ho (by omega))
  refine⟨o',k'',ho',hk'',fun K=>?_⟩
  rw[C0,G6,Kc (by omega),cond_true,wS (by omega),hK]
  have b1:(decide ((0:Int)≤(0:Int))&&(decide (0≤(v:Int))&&(decide ((v:Int)≤((o.length:Nat):Int))&&decide (((o.length:Nat):Int)≤((o.length:Nat):Int)))))=true:=by simp;omega
  have b2:(Nat.ble (0+v) 140737488355328&&Nat.ble ((0+v)*8) 140737488355328)=true:=by simp;omega
  have b3:(Nat.ble (0+v+1) 140737488355328&&Nat.ble ((0+v+1)*8) 140737488355328)=true:=by simp;omega
  have b4:(decide (0≤(v:Int))&&(decide ((v:Int)≤((o.length:Nat):Int))&&(decide (((o.length:Nat):Int)≤((o.length:Nat):Int))&&decide (((o.length:Nat):Int)≤((o.length:Nat):Int)))))=true:=by simp;omega
  have b5:(Nat.ble (0+v+1+(o.length - v)) 140737488355328&&Nat.ble ((0+v+1+(o.length - v))*8) 140737488355328)=true:=by simp;omega
  simp only[Int.toNat_natCast]
  rw[b1,cond_true,b2,cond_true,b3,cond_true,b4,cond_true,b5,cond_true,←hK' K]
  have e1:0+v+1+(o.length - v)=(o.take v++i::o.drop v).length:=by simp;omega
  have e2:List.take ((0+v+1)*1) (List.take ((0+v)*1) (List.take (v*1) (Ab (Ap o)))++[AV.int .i64 (i:Int)])++List.take ((o.length - v)*1) (List.drop (0+v*1) (Ab (Ap o)))=Ab (Ap (o.take v++i::o.drop v)):=by
   have hvl:v≤o.length:=by omega
   rw[List.take_of_length_le (i:=(o.length - v)*1) (by simp[Ab,Ap]),List.take_of_length_le (i:=(0+v+1)*1) (by simp[Ab,Ap];omega),List.take_take]
   simp[Ab,Ap]
  rw[e1,e2]
theorem EP {N n:Nat} {l:List Int} {d e:Bool} (hN:2000≤N) (hl:l.length≤9223372036854775807) (hn:n≤1000) :
  ∃ (o:List Nat) (k':Nat),Im n o∧∀ K:Nat→Int→LA→O R,Dh N (n:Int) (Ab l) l.length d e 0 K=K n (k':Int) (Ab (Ap o)):=by
 obtain⟨o,k',h1,_,h3⟩:=TM (R:=R) (N:=N) (d:=d) (e:=e) hl hn n 0 N 0 [] (by omega) (by omega) (Nat.zero_le _) ⟨List.nodup_nil,(fun x hx=>by cases hx),rfl⟩
 refine⟨o,k',h1,fun K=>?_⟩
 rw[Qj,Kw]
 exact h3 K
def ins:List Int→Int→List Int
 | [],v=>[v]
 | x::l,v=>if x<v then x::ins l v else if x=v then x::l else v::x::l
theorem Wu {v x:Int}:∀ {l:List Int},x ∈ ins l v↔x=v∨x ∈ l
 | []=>by simp[ins]
 | y::l=>by
  unfold ins
  split
  ·rw[List.mem_cons,Wu,List.mem_cons]
   constructor
   ·rintro(h | h | h)
    ·exact .inr (.inl h)
    ·exact .inl h
    ·exact .inr (.inr h)
   ·rintro(h | h | h)
    ·exact .inr (.inl h)
    ·exact .inl h
    ·exact .inr (.inr h)
  ·split
   ·rename_i h
    constructor
    ·exact .inr
    ·rintro(h2 | h2)
     ·rw[h2,←h];exact List.mem_cons_self
     ·exact h2
   ·rw[List.mem_cons]
theorem EQ {v:Int}:∀ {l:List Int},l.Pairwise (·<·)→(ins l v).Pairwise (·<·)
 | [],_=>by simp[ins]
 | y::l,h=>by
  have h1:=List.pairwise_cons.1 h
  unfold ins
  split
  ·rename_i hy
   refine List.pairwise_cons.2 ⟨fun z hz=>?_,EQ h1.2⟩
   rcases Wu.1 hz with rfl | hz
   ·exact hy
   ·exact h1.1 z hz
  ·split
   ·exact h
   ·rename_i h2 h3
    refine List.pairwise_cons.2 ⟨fun z hz=>?_,h⟩
    rcases List.mem_cons.1 hz with rfl | hz
    ·omega
    ·have:=h1.1 z hz;omega
theorem TN {v:Int}:∀ {l:List Int},(ins l v).length≤l.length+1
 | []=>by simp[ins]
 | y::l=>by
  have:=TN (v:=v) (l:=l)
  unfold ins
  split
  ·simp;omega
  ·split<;>simp
theorem ZI {N:Nat} {l:List Int} {g:Bool} {v:Int} {r0:LA→Nat→Bool→O R} (hl:l.length≤1000) :
  ∀ (fuel b:Nat),b≤l.length→l.length - b<fuel→D3 N r0 (Ab l) l.length g false v fuel (b:Int)=r0 (Ab (l.take b++ins (l.drop b) v)) (l.take b++ins (l.drop b) v).length false
 | 0,_,_,h=>by omega
 | fuel+1,b,hb,hf=>by
  rw[D3,Jy]
  have join:Hv N r0 (Ab l) l.length g false v (b:Int)=r0 (Ab (l.take b++v::l.drop b)) (l.take b++v::l.drop b).length false:=by
   unfold Hv
   have b1:(decide ((0:Int)≤(0:Int))&&(decide (0≤(b:Int))&&(decide ((b:Int)≤((l.length:Nat):Int))&&decide (((l.length:Nat):Int)≤((l.length:Nat):Int)))))=true:=by simp;omega
   have b2:(Nat.ble (0+b) 140737488355328&&Nat.ble ((0+b)*8) 140737488355328)=true:=by simp;omega
   have b3:(Nat.ble (0+b+1) 140737488355328&&Nat.ble ((0+b+1)*8) 140737488355328)=true:=by simp;omega
   have b4:(decide (0≤(b:Int))&&(decide ((b:Int)≤((l.length:Nat):Int))&&(decide (((l.length:Nat):Int)≤((l.length:Nat):Int))&&decide (((l.length:Nat):Int)≤((l.length:Nat):Int)))))=true:=by simp;omega
   have b5:(Nat.ble (0+b+1+(l.length - b)) 140737488355328&&Nat.ble ((0+b+1+(l.length - b))*8) 140737488355328)=true:=by simp;omega
   simp only[Int.toNat_natCast,Bool.not_false,Bool.true_or]
   rw[b1,cond_true,cond_true,b2,cond_true,b3,cond_true,b4,cond_true,cond_true,b5,cond_true]
   have e1:0+b+1+(l.length - b)=(l.take b++v::l.drop b).length:=by simp;omega
   have e2:List.take ((0+b+1+(l.length - b))*1) (List.take ((0+b+1)*1) (List.take ((0+b)*1) (List.take (b*1) (Ab l))++[AV.int .i64 v])++List.take ((l.length - b)*1) (List.drop (b*1) (Ab l)))=Ab (l.take b++v::l.drop b):=by
    rw[List.take_of_length_le (i:=(l.length - b)*1) (by simp[Ab]),List.take_of_length_le (i:=(0+b+1)*1) (by simp[Ab];omega),List.take_take,List.take_of_length_le (i:=(0+b+1+(l.length - b))*1) (by simp[Ab];omega)]
    simp[Ab]
   rw[e2,e1]
  by_cases hlt:b<l.length
  ·have hx:=BC (getD_some hlt)
   rw[Kc (by omega)]
   simp only[beq_self_eq_true,cond_true]
   rw[A8 hlt,cond_true,Gn hlt]
   by_cases h1:l.getD b 0<v
   ·rw[decide_eq_true h1,cond_true,wS (by omega),ZI hl fuel (b+1) (by omega) (by omega)]
    have:l.take (b+1)++ins (l.drop (b+1)) v=l.take b++ins (l.drop b) v:=by
     rw[hx,ins,if_pos h1,Cv (getD_some hlt)];simp
    rw[this]
   ·rw[decide_eq_false h1,cond_false,cond_true,Gn hlt,hx,ins,if_neg h1]
    by_cases h2:l.getD b 0=v
    ·rw[beq_iff_eq.2 h2,cond_true,if_pos h2,←hx,List.take_append_drop]
    ·have hb2:(l.getD b 0==v)=false:=by simpa using h2
     rw[hb2,cond_false,if_neg h2,join,hx]
  ·have:b=l.length:=by omega
   subst this
   rw[Ja (by omega)]
   have hft:(false==true)=false:=rfl
   rw[hft,cond_false,cond_false,join,List.drop_length];rfl
theorem BE {N:Nat} {l:List Int} {g:Bool} {v:Int} {r0:LA→Nat→Bool→O R} (hN:2000≤N) (hl:l.length≤1000):Ed N (Ab l) l.length g false v r0=r0 (Ab (ins l v)) (ins l v).length false:=by
 rw[Py,Kq]
 exact ZI hl N 0 (Nat.zero_le _) (by omega)
theorem TO {rows:List (List Int)} (h1:∀ i,(Ah rows i).Pairwise (·<·)) (h2:∀ i x,x ∈ Ah rows i→∃ j:Nat,x=(j:Int)∧j<rows.length∧j≠i) (h3:∀ i j:Nat,(j:Int) ∈ Ah rows i→(i:Int) ∈ Ah rows j):vG rows=true:=by
 unfold vG
 rw[Bool.and_eq_true,E4,E4]
 refine⟨fun i _ hi=>?_,fun i _ hi=>?_⟩
 ·rw[E4]
  intro k _ hk
  have hk:k<(Ah rows i).length:=by omega
  obtain⟨j,e1,e2,e3⟩:=h2 i _ (List.mem_of_getElem? (getD_some hk))
  unfold Np
  simp only[Bool.and_eq_true,Bool.or_eq_true,decide_eq_true_eq]
  refine⟨by omega,by omega,by omega,?_⟩
  by_cases h0:k=0
  ·exact .inl h0
  ·right
   have:=(List.pairwise_iff_getElem.1 (h1 i)) (k - 1) k (by omega) hk (by omega)
   have ea:=getD_some (show k - 1<(Ah rows i).length by omega)
   have ec:=getD_some hk
   rw[List.getElem?_eq_getElem (by omega)] at ea ec
   injection ea with ea
   injection ec with ec
   omega
 ·rw[E4]
  intro k _ hk
  have hk:k<(Ah rows i).length:=by omega
  have hm:=List.mem_of_getElem? (getD_some hk)
  obtain⟨j,e1,e2,e3⟩:=h2 i _ hm
  unfold Yh
  rw[e1,Int.toNat_natCast,decide_eq_true_eq]
  rw[e1] at hm
  exact h3 i j hm
theorem IG {rows:List (List Int)} {i j:Nat} {r:List Int} (h:i<rows.length):Ah (rows.set i r) j=if j=i then r else Ah rows j:=by
 unfold Ah
 rw[List.getD_eq_getElem?_getD,List.getD_eq_getElem?_getD]
 by_cases e:j=i
 ·subst e;rw[if_pos rfl,List.getElem?_set_self h];rfl
 ·rw[if_neg e,List.getElem?_set_ne (Ne.symm e)]
theorem SK {c:LA} {rows:List (List Int)} (h:GR c rows) {i:Nat} {r:List Int} (hi:i<rows.length):GR (c.set i (.imm (Ab r) r.length 1 false false)) (rows.set i r):=by
 refine⟨by rw[List.length_set,List.length_set];exact h.1,fun j s hj=>?_⟩
 by_cases e:i=j
 ·subst e
  rw[List.getElem?_set_self hi] at hj
  injection hj with hj
  subst hj
  exact⟨_,List.getElem?_set_self (by rw[h.1];exact hi),by simp[Qz]⟩
 ·rw[List.getElem?_set_ne e] at hj
  obtain⟨x,h1,h2⟩:=h.2 j s hj
  exact⟨x,by rw[List.getElem?_set_ne e];exact h1,h2⟩
def U_ (rows:List (List Int)) (a b:Nat):List (List Int):=(rows.set a (ins (Ah rows a) (b:Int))).set b (ins (Ah rows b) (a:Int))
theorem PY {rows:List (List Int)} {a b i:Nat} (ha:a<rows.length) (hb:b<rows.length) (hab:a≠b):Ah (U_ rows a b) i=if i=b then ins (Ah rows b) (a:Int) else if i=a then ins (Ah rows a) (b:Int) else Ah rows i:=by
 unfold U_
 rw[IG (by simpa using hb),IG ha]
theorem SL {rows:List (List Int)} (h:vG rows=true) {a b:Nat} (ha:a<rows.length) (hb:b<rows.length) (hab:a≠b):vG (U_ rows a b)=true:=by
 have hlen:(U_ rows a b).length=rows.length:=by simp[U_]
 have hmem:∀ (i:Nat) (x:Int),x ∈ Ah (U_ rows a b) i↔x ∈ Ah rows i∨(i=a∧x=(b:Int))∨(i=b∧x=(a:Int)):=by
  intro i x
  rw[PY ha hb hab]
  by_cases e1:i=b
  ·subst e1
   rw[if_pos rfl,Wu]
   constructor
   ·rintro(h | h)
    ·exact .inr (.inr ⟨rfl,h⟩)
    ·exact .inl h
   ·rintro(h | ⟨h,_⟩ | ⟨_,h⟩)
    ·exact .inr h
    ·exact absurd h.symm hab
    ·exact .inl h
  ·rw[if_neg e1]
   by_cases e2:i=a
   ·subst e2
    rw[if_pos rfl,Wu]
    constructor
    ·rintro(h | h)
     ·exact .inr (.inl ⟨rfl,h⟩)
     ·exact .inl h
    ·rintro(h | ⟨_,h⟩ | ⟨h,_⟩)
     ·exact .inr h
     ·exact .inl h
     ·exact absurd h hab
   ·rw[if_neg e2]
    simp[e1,e2]
 refine TO (fun i=>?_) (fun i x hx=>?_) (fun i j hij=>?_)
 ·rw[PY ha hb hab]
  split
  ·exact EQ (Yi (H_ h))
  ·split
   ·exact EQ (Yi (H_ h))
   ·exact Yi (H_ h)
 ·rw[hlen]
  rcases(hmem i x).1 hx with h1 | ⟨h1,h2⟩ | ⟨h1,h2⟩
  ·obtain⟨j,e1,e2,e3,_⟩:=Yj h h1
   exact⟨j,e1,e2,e3⟩
  ·exact⟨b,h2,hb,by omega⟩
  ·exact⟨a,h2,ha,by omega⟩
 ·rw[hmem] at hij ⊢
  rcases hij with h1 | ⟨h1,h2⟩ | ⟨h1,h2⟩
  ·left
   have:=Zp h (i:=i) (j:=j) (decide_eq_true h1)
   exact of_decide_eq_true this
  ·exact .inr (.inr ⟨by omega,by omega⟩)
  ·exact .inr (.inl ⟨by omega,by omega⟩)
theorem TP {N n:Nat} {l:List Int} {e:Bool} (hN:2000≤N) (hl:l.length≤9223372036854775807) (hn:n≤20) :
  ∀ (r fuel k:Nat) (c:LA) (rows:List (List Int)),r<fuel→r≤1000→k≤l.length→GR c rows→vG rows=true→rows.length=n →
   ∃ (c':LA) (rows':List (List Int)),GR c' rows'∧vG rows'=true∧rows'.length=n∧∀ K:LA→Nat→Bool→O R,Cg N K (n:Int) (Ab l) l.length e fuel n (r:Int) (k:Int) false c=K c' n false
 | 0,fuel+1,k,c,rows,_,_,hk,hc,hv,hr=>by
  refine⟨c,rows,hc,hv,hr,fun K=>?_⟩
  rw[Cg,Fl,decide_eq_false (show ¬ ((0:Nat):Int)>0 by omega)]
  have hft:(false==true)=false:=rfl
  rw[hft,cond_false,Nat.mul_one,List.take_of_length_le (by rw[hc.1,hr];exact Nat.le_refl _)]
 | r+1,fuel+1,k,c,rows,hf,hr2,hk,hc,hv,hr=>by
  by_cases hn1:n>1
  ·obtain⟨a,k1,ha,hk1,hK1⟩:=Zs (R:=R) (N:=N) (l:=l) (t:=false) (o:=e) hl (n:Int) (by omega) (by omega) k hk
   obtain⟨t,k2,ht,hk2,hK2⟩:=Zs (R:=R) (N:=N) (l:=l) (t:=false) (o:=e) hl ((n - 1:Nat):Int) (by omega) (by omega) k1 hk1
   have ha':a<rows.length:=by omega
   have hb':(a+1+t)%n<rows.length:=by rw[hr];exact Nat.mod_lt _ (by omega)
   have hab:a≠(a+1+t)%n:=by
    intro e
    by_cases h:a+1+t<n
    ·rw[Nat.mod_eq_of_lt h] at e;omega
    ·rw[Nat.mod_eq_sub_mod (by omega),Nat.mod_eq_of_lt (by omega)] at e;omega
   have hra:=V9 hv a
   have hrb:=V9 hv ((a+1+t)%n)
   have hla:=TN (v:=(((a+1+t)%n:Nat):Int)) (l:=Ah rows a)
   have hc1:=SK hc (i:=a) (r:=ins (Ah rows a) (((a+1+t)%n:Nat):Int)) ha'
   have hc2:=SK hc1 (i:=(a+1+t)%n) (r:=ins (Ah rows ((a+1+t)%n)) (a:Int)) (by simpa using hb')
   obtain⟨c',rows',h1,h2,h3,h4⟩:=TP (e:=e) hN hl hn r fuel k2 _ _ (by omega) (by omega) hk2 hc2 (SL hv ha' hb' hab) (by simp;omega)
   refine⟨c',rows',h1,h2,h3,fun K=>?_⟩
   rw[Cg,Fl,decide_eq_true (show((r+1:Nat):Int)>0 by omega),decide_eq_true (show(n:Int)>1 by omega)]
   simp only[beq_self_eq_true,cond_true]
   unfold Iw
   have hz:((n:Int)==0)=false:=by simp;omega
   have e0:wrap .i64 ((n:Int) - 1)=((n - 1:Nat):Int):=by rw[MX (by omega) (by omega)];omega
   have e1:wrap .i64 (wrap .i64 ((a:Int)+1)+(t:Int))=((a+1+t:Nat):Int):=by rw[wS (by omega),MX (by omega) (by omega)];omega
   have e2:Int.tmod ((a+1+t:Nat):Int) (n:Int)=(((a+1+t)%n:Nat):Int):=by
    rw[Int.tmod_eq_emod_of_nonneg (by omega)];omega
   have e3:wrap .i64 (((r+1:Nat):Int) - 1)=(r:Int):=by rw[MX (by omega) (by omega)];omega
   have hcl:=hc.1
   rw[hK1,e0,hK2,hz,cond_false,A8 (by omega),cond_true,WR hc ha',e1,e2,BE hN (by omega),A8 (by omega),cond_true,WR hc hb',BE hN (by omega),cond_true]
   rw[M_ (x:=a) (by omega),cond_true,cond_true,M_ (x:=(a+1+t)%n) (by rw[List.length_set];omega),cond_true,e3]
   simp only[Int.toNat_natCast,Nat.zero_add,Nat.mul_one,Bool.or_false]
   exact h4 K
  ·refine⟨c,rows,hc,hv,hr,fun K=>?_⟩
   rw[Cg,Fl,decide_eq_true (show((r+1:Nat):Int)>0 by omega),decide_eq_false (show ¬ (n:Int)>1 by omega)]
   simp only[beq_self_eq_true,cond_true]
   rw[cond_false,Nat.mul_one,List.take_of_length_le (by rw[hc.1,hr];exact Nat.le_refl _)]
theorem IH {N:Nat} {l:List Int} {p e:Bool} (hN:2000≤N) (hl:l.length≤9223372036854775807) :
  ∃ (c:LA) (rows:List (List Int)),GR c rows∧vG rows=true∧rows.length≤9∧∀ K:LA→Nat→Bool→O R,E5 N (Ab l) l.length p e K=K c rows.length false:=by
 obtain⟨n,k1,hn,hk1,hK1⟩:=Zs (R:=R) (N:=N) (l:=l) (t:=false) (o:=e) hl 10 (by omega) (by omega) 0 (Nat.zero_le _)
 obtain⟨r,k2,hr,hk2,hK2⟩:=Zs (R:=R) (N:=N) (l:=l) (t:=false) (o:=e) hl 20 (by omega) (by omega) k1 hk1
 have hrow:∀ i,Ah (List.replicate n []) i=[]:=by
  intro i
  unfold Ah
  rw[List.getD_eq_getElem?_getD]
  by_cases h:i<n<;>simp[h]
 have hv0:vG (List.replicate n [])=true:=TO (fun i=>by rw[hrow];exact List.Pairwise.nil) (fun i x hx=>by rw[hrow] at hx;cases hx) (fun i j hx=>by rw[hrow] at hx;cases hx)
 have hg0:GR (List.replicate n AV.nsl) (List.replicate n []):=by
  refine⟨by simp,fun i s hs=>?_⟩
  rw[List.getElem?_replicate] at hs
  split at hs
  ·rename_i hi
   injection hs with hs
   subst hs
   exact⟨AV.nsl,by rw[List.getElem?_replicate,if_pos hi],by simp[Qz,Ab]⟩
  ·cases hs
 obtain⟨c',rows',h1,h2,h3,h4⟩:=TP (R:=R) (e:=e) hN hl (show n≤20 by omega) r N k2 _ _ (by omega) (by omega) hk2 hg0 hv0 (by simp)
 refine⟨c',rows',h1,h2,by omega,fun K=>?_⟩
 rw[Ta,L3,IF]
 have hK1':=hK1
 rw[show((0:Nat):Int)=0 from rfl] at hK1'
 have hb:(decide (0≤(n:Int))&&(decide ((n:Int)≤(n:Int))&&(decide ((n:Int)≤140737488355328)&&decide ((n:Int)*((24:Nat):Int)≤140737488355328))))=true:=by simp;omega
 rw[hK1',hb,cond_true,hK2,Int.toNat_natCast,h4 K,h3]
end
end Gx

namespace Gx
open Go
open IntKind (wrap)
section
variable {R:Type}
theorem II {N:Nat} {r0:Bool→O R} (hN:2000≤N):Ck N r0=r0 true:=by
 rw[Tu]
 unfold R4
 have g1:GR [(.imm [(.int .i64 1)] 1 1 false false),(.imm [(.int .i64 0),(.int .i64 2)] 2 1 false false),(.imm [(.int .i64 1)] 1 1 false false)] [[1],[0,2],[1]]:=by
  refine⟨rfl,fun i r h=>?_⟩
  match i with
  | 0=>injection h with h;subst h;exact⟨_,rfl,rfl⟩
  | 1=>injection h with h;subst h;exact⟨_,rfl,rfl⟩
  | 2=>injection h with h;subst h;exact⟨_,rfl,rfl⟩
  | i+3=>simp at h
 have g2:GR [(.imm [(.int .i64 1),(.int .i64 2),(.int .i64 3)] 3 1 false false),(.imm [(.int .i64 0)] 1 1 false false),(.imm [(.int .i64 0)] 1 1 false false),(.imm [(.int .i64 0)] 1 1 false false)] [[1,2,3],[0],[0],[0]]:=by
  refine⟨rfl,fun i r h=>?_⟩
  match i with
  | 0=>injection h with h;subst h;exact⟨_,rfl,rfl⟩
  | 1=>injection h with h;subst h;exact⟨_,rfl,rfl⟩
  | 2=>injection h with h;subst h;exact⟨_,rfl,rfl⟩
  | 3=>injection h with h;subst h;exact⟨_,rfl,rfl⟩
  | i+4=>simp at h
 have l1:∀ j,(Ah [[1],[0,2],[1]] j).length≤1000:=fun j=>by
  match j with
  | 0=>decide
  | 1=>decide
  | 2=>decide
  | j+3=>rw[V8 (by simp)];simp
 have l2:∀ j,(Ah [[1,2,3],[0],[0],[0]] j).length≤1000:=fun j=>by
  match j with
  | 0=>decide
  | 1=>decide
  | 2=>decide
  | 3=>decide
  | j+4=>rw[V8 (by simp)];simp
 have m1:aP [[1],[0,2],[1]]=([0,1,2],0):=by decide
 have t1:aO [[1],[0,2],[1]] [0,1,2]=([1,2,-1],0):=by decide
 have f1:aS [[1,2,3],[0],[0],[0]] [0,1,2,3]=(3,0):=by decide
 refine Eq.trans (Uh (rows:=[[1],[0,2],[1]]) hN g1 (by decide) l1) ?_
 rw[m1]
 have hh:(Ab [0,1,2]).take (([0,1,2]:List Int).length*1)=Ab [0,1,2]:=Sf
 simp only[hh]
 refine Eq.trans (IE (rows:=[[1],[0,2],[1]]) (ord:=[0,1,2]) hN g1 (by decide) l1 (by decide)) ?_
 rw[t1]
 have hh2:(Ab [1,2,-1]).take (([1,2,-1]:List Int).length*1)=Ab [1,2,-1]:=Sf
 simp only[hh2]
 refine Eq.trans (Nr (rows:=[[1,2,3],[0],[0],[0]]) (ord:=[0,1,2,3]) hN g2 (by decide) l2 (by decide)) ?_
 rw[f1]
 simp only[beq_self_eq_true,cond_true]
 refine Eq.trans (PX (l:=[0,1,2]) hN (by decide)) ?_
 simp only[beq_self_eq_true,cond_true]
 refine Eq.trans (PX (l:=[1,2,-1]) hN (by decide)) ?_
 simp only[beq_self_eq_true,cond_true]
theorem Sg {rows:List (List Int)} (h:vG rows=true) (hn:rows.length≤1000):∀ j,(Ah rows j).length≤1000:=fun j=>Nat.le_trans (V9 h j) hn
end
end Gx

namespace Gx
open Go Go.RowKit
section
variable {P:Program} {W:World} {H:Type} {enc:TypeId×Value→H} {β:Au} {h:Ai}
theorem X_ {t el:TypeId} {α:Type} {e:α→LA} {n:Nat} {a:Option Addr} {len cap:Nat} {d:DataW H} {p:List MemPlace} (hu:P.underlying t=some (.slice el)) (hc:P.cellsOf t=1) (he:Opens P el e n)
  (hd:DataW.Trod enc P W 0 (fun _=>true) true t (.slice a len cap) d p):∃ l:List α,l.length≤maxLen∧Rep (fun _ k=>k<W.heap.size) β h W (.imm (l.flatMap e) l.length n false false) (.slice a len cap):=by
 obtain⟨fuel,hf⟩:=hd
 obtain⟨_,⟨l,hl⟩,hr⟩:=(PJ hu hc he).read enc W fuel _ _ _ hf
 refine⟨l,hl,?_⟩
 simp only[RepCs,Value.cells,and_true] at hr
 obtain⟨u,hu,hr⟩:=hr
 simp at hu;subst hu
 rw[Rep];exact hr
theorem IJ:Reps (fun _ k=>k<W.heap.size) β h W [] []:=by rw[Reps]
theorem Kd {x:AV} {xs:LA} {v:Value} {vs:List Value} (h1:Rep (fun _ k=>k<W.heap.size) β h W x v) (h2:Reps (fun _ k=>k<W.heap.size) β h W xs vs):Reps (fun _ k=>k<W.heap.size) β h W (x::xs) (v::vs):=by
 rw[Reps];exact⟨v,vs,rfl,h1,h2⟩
end
end Gx

namespace Gx
open Go Go.Proofs Go.RowKit
section
variable {H:Type} {enc:TypeId×Value→H} {W:World} {β:Au} {h:Ai}
theorem XG {q:Int→Prop}:∀ m:List { n:Int // q n },m.flatMap (fun n=>[AV.int .i64 n.1])=Ab (m.map (·.1))
 | []=>rfl
 | a::r=>by rw[List.flatMap_cons,XG r];rfl
theorem H4 {a:Option Addr} {len cap:Nat} {d:DataW H} {p:List MemPlace} (hd:DataW.Trod enc Try.prog W 0 (fun _=>true) true 22 (.slice a len cap) d p) :
  ∃ l:List Int,l.length≤9223372036854775807∧Rep (fun _ k=>k<W.heap.size) β h W (.imm (Ab l) l.length 1 false false) (.slice a len cap):=by
 obtain⟨l,hl,e⟩:=X_ (β:=β) (h:=h) Try.underlying22 (by kernel_rfl) (UO Try.underlying3 (by kernel_rfl)) hd
 rw[XG] at e
 exact⟨l.map (·.1),by rw[List.length_map];simpa[maxLen] using hl,by rw[List.length_map];exact e⟩
end
end Gx
namespace Gx
open Go Go.Proofs
theorem XH {W:World}:GlobOk (fun _ k=>k<W.heap.size) W:=⟨(fun _ hp=>by cases hp),(fun _ hg=>by cases hg)⟩
end Gx

namespace Gx
open Go
open IntKind (wrap)
section
variable {R:Type}
def TQ (A:Nat→Nat→Bool) (l:List Nat):Nat→Nat→Bool:=l.foldl Bt A
theorem IK {x y:Nat}:∀ (l:List Nat) (A:Nat→Nat→Bool),x ∉ l→y ∉ l→A x y=true→TQ A l x y=true
 | [],A,_,_,h=>h
 | v::l,A,h1,h2,h=>by
  refine IK l (Bt A v) (fun hm=>h1 (List.mem_cons_of_mem _ hm)) (fun hm=>h2 (List.mem_cons_of_mem _ hm)) ?_
  have e1:x≠v:=fun e=>h1 (e▸List.mem_cons_self)
  have e2:y≠v:=fun e=>h2 (e▸List.mem_cons_self)
  rw[G7,h];simp[e1,e2]
theorem YA (A:Nat→Nat→Bool) (l m:List Nat):TQ A (l++m)=TQ (TQ A l) m:=by unfold TQ;rw[List.foldl_append]
theorem KU {x:Nat}:∀ (o:List Nat) (A:Nat→Nat→Bool) (P:List Int),x ∉ o→(∀ y ∈ o,y<P.length)→(La A o P).getD x 0=P.getD x 0
 | [],A,P,_,_=>rfl
 | v::r,A,P,h,hl=>by
  rw[La,KU r _ _ (fun hm=>h (List.mem_cons_of_mem _ hm)) (fun y hy=>by rw[List.length_set];exact hl y (List.mem_cons_of_mem _ hy)),K8 (hl v List.mem_cons_self),if_neg (by intro e;subst e;exact h List.mem_cons_self)]
theorem BF:∀ (o:List Nat) (A:Nat→Nat→Bool) (P:List Int) (i v:Nat),o.Nodup→(∀ y ∈ o,y<P.length)→o[i]?=some v→(La A o P).getD v 0=JJ (TQ A (o.take i)) v (o.drop (i+1))
 | [],A,P,i,v,_,_,h=>by simp at h
 | u::r,A,P,0,v,hn,hl,h=>by
  simp at h;subst h
  rw[La,KU r _ _ (List.nodup_cons.1 hn).1 (fun y hy=>by rw[List.length_set];exact hl y (List.mem_cons_of_mem _ hy)),K8 (hl u List.mem_cons_self),if_pos rfl];rfl
 | u::r,A,P,i+1,v,hn,hl,h=>by
  have h1:r[i]?=some v:=by simpa using h
  rw[La,BF r (Bt A u) _ i v (List.nodup_cons.1 hn).2 (fun y hy=>by rw[List.length_set];exact hl y (List.mem_cons_of_mem _ hy)) h1];rfl
theorem KV {A:Nat→Nat→Bool} {v:Nat} {Gv:List Nat}:JJ A v Gv=-1∨∃ (k p:Nat),JJ A v Gv=(p:Int)∧Gv[k]?=some p∧A v p=true∧∀ x,x ∈ Gv→A v x=true→∃ m,k≤m∧Gv[m]?=some x:=by
 unfold JJ
 cases hfind:Gv.find? (A v) with
 | none=>exact .inl rfl
 | some w =>
  right
  obtain⟨hw,l1,l2,hr,hl1⟩:=List.find?_eq_some_iff_append.1 hfind
  refine⟨l1.length,w,rfl,by rw[hr];simp,hw,fun x hx hax=>?_⟩
  rw[hr] at hx ⊢
  rcases List.mem_append.1 hx with h | h
  ·have:=hl1 x h;rw[hax] at this;cases this
  ·obtain⟨m,hm⟩:=List.getElem?_of_mem h
   exact⟨l1.length+m,by omega,by rw[List.getElem?_append_right (by omega)];simpa using hm⟩
theorem H5 {o:List Nat} (hn:o.Nodup) {i k x:Nat} (hx:o[i]?=some x) (h:k≤i):x ∉ o.take k:=by
 intro hm
 obtain⟨m,hm⟩:=List.getElem?_of_mem hm
 rw[List.getElem?_take] at hm
 split at hm
 ·obtain⟨h1,h2⟩:=List.getElem?_eq_some_iff.1 hm
  obtain⟨h3,h4⟩:=List.getElem?_eq_some_iff.1 hx
  have:=(List.getElem_inj hn).1 (h2.trans h4.symm)
  omega
 ·cases hm
theorem U' {A0:Nat→Nat→Bool} {n:Nat} {o:List Nat} (hp:Im n o) {i j v w:Nat} (hv:o[i]?=some v) (hw:o[j]?=some w) (hij:i<j) (hA:TQ A0 (o.take i) v w=true) :
  ∃ i' p:Nat,i<i'∧i'≤j∧o[i']?=some p∧(La A0 o (List.replicate n 0)).getD v 0=(p:Int)∧(i'<j→TQ A0 (o.take i') p w=true):=by
 have hwr:w ∈ o.drop (i+1):=by
  refine List.mem_of_getElem? (i:=j - (i+1)) ?_
  rw[List.getElem?_drop,←hw];congr 1;omega
 have hT:=BF o A0 (List.replicate n 0) i v hp.1 (fun y hy=>by rw[List.length_replicate];exact hp.2.1 y hy) hv
 rcases KV (A:=TQ A0 (o.take i)) (v:=v) (Gv:=o.drop (i+1)) with h | ⟨k,p,h1,h2,h3,h4⟩
 ·unfold JJ at h
  cases hf:(o.drop (i+1)).find? (TQ A0 (o.take i) v) with
  | none=>exact absurd hA (List.find?_eq_none.1 hf w hwr)
  | some q=>rw[hf] at h;simp at h
 ·have hop:o[i+1+k]?=some p:=by rw[←List.getElem?_drop];exact h2
  obtain⟨m,hm1,hm2⟩:=h4 w hwr hA
  have how:o[i+1+m]?=some w:=by rw[←List.getElem?_drop];exact hm2
  have hmj:i+1+m=j:=by
   obtain⟨a1,a2⟩:=List.getElem?_eq_some_iff.1 how
   obtain⟨a3,a4⟩:=List.getElem?_eq_some_iff.1 hw
   exact(List.getElem_inj hp.1).1 (a2.trans a4.symm)
  refine⟨i+1+k,p,by omega,by omega,hop,by rw[hT,h1],fun hlt=>?_⟩
  have hpw:p≠w:=by
   intro e
   subst e
   obtain⟨a1,a2⟩:=List.getElem?_eq_some_iff.1 hop
   obtain⟨a3,a4⟩:=List.getElem?_eq_some_iff.1 hw
   have:=(List.getElem_inj hp.1).1 (a2.trans a4.symm)
   omega
  have hpv:p≠v:=fun e=>H5 hp.1 hop (show i+1≤i+1+k by omega) (by rw[Cv hv,e];simp)
  have hwv:w≠v:=fun e=>H5 hp.1 hw (show i+1≤j by omega) (by rw[Cv hv,e];simp)
  have e1:o.take (i+1+k)=o.take i++(v::(o.drop (i+1)).take k):=by
   rw[List.take_add,Cv hv];simp
  rw[e1,YA]
  show TQ (Bt (TQ A0 (o.take i)) v) ((o.drop (i+1)).take k) p w=true
  refine IK _ _ (fun hm=>?_) (fun hm=>?_) (by rw[G7,h3,hA];simp[hpv,hwv,hpw])
  ·exact H5 hp.1 hop (Nat.le_refl _) (by rw[e1];simp[hm])
  ·exact H5 hp.1 hw (show i+1+k≤j by omega) (by rw[e1];simp[hm])
end
end Gx

namespace Gx
open Go
open IntKind (wrap)
section
variable {R:Type}
theorem KW (o:List Nat):Nq (Ap o)=o:=by
 unfold Nq Ap
 rw[List.map_map]
 conv=>rhs;rw[←List.map_id o]
 exact List.map_congr_left (fun x _=>by simp)
theorem PZ {n:Nat} {o:List Nat} (h:Im n o):pG n (Ap o)=true:=by
 unfold pG
 rw[Bool.and_eq_true,E4]
 refine⟨decide_eq_true (by rw[A2];exact h.2.2),fun i _ hi=>?_⟩
 rw[A2] at hi
 obtain⟨x,hx⟩:∃ x,o[i]?=some x:=⟨_,List.getElem?_eq_getElem (by omega)⟩
 have hxn:=h.2.1 x (List.mem_of_getElem? hx)
 unfold WU
 rw[Bu hx,decide_eq_true (show(0:Int)≤(x:Int) by omega),decide_eq_true (show(x:Int)<(n:Int) by omega),decide_eq_false]
 ·rfl
 ·have:(Ap o).take i=Ap (o.take i):=by simp[Ap]
  rw[this]
  intro hm
  have:=of_decide_eq_true (bF (ord:=o.take i) (g:=x)▸decide_eq_true hm)
  exact H5 h.1 hx (Nat.le_refl _) this
structure FoOk (n:Nat) (rows:List (List Int)) (T W:List Int) (o:List Nat):Prop where
 po:Im n o
 rl:rows.length=n
 vg:vG rows=true
 tt:T=La (Aw rows) o (List.replicate n 0)
 ww:SD n (Ap o) W
theorem FoOk.W {n:Nat} {rows:List (List Int)} {T W:List Int} {o:List Nat} (h:FoOk n rows T W o) {i v:Nat} (hv:o[i]?=some v):W.getD v 0=(i:Int):=by
 have hi:=(List.getElem?_eq_some_iff.1 hv).1
 have:=h.ww.2 i (by rw[A2];exact hi)
 rw[Bu hv,Int.toNat_natCast] at this
 exact this
theorem FoOk.idx {n:Nat} {rows:List (List Int)} {T W:List Int} {o:List Nat} (h:FoOk n rows T W o) {v:Nat} (hv:v<n):∃ i,o[i]?=some v∧i<n:=by
 obtain⟨i,hi⟩:=List.getElem?_of_mem (aN h.po.1 h.po.2.1 h.po.2.2 hv)
 have:=(List.getElem?_eq_some_iff.1 hi).1
 exact⟨i,hi,by rw[←h.po.2.2];exact this⟩
theorem FoOk.Tlen {n:Nat} {rows:List (List Int)} {T W:List Int} {o:List Nat} (h:FoOk n rows T W o):T.length=n:=by rw[h.tt,Se];simp
theorem FoOk.par {n:Nat} {rows:List (List Int)} {T W:List Int} {o:List Nat} (h:FoOk n rows T W o) {i v:Nat} (hv:o[i]?=some v):T.getD v 0=-1∨∃ j p:Nat,T.getD v 0=(p:Int)∧o[j]?=some p∧i<j:=by
 have hT:=BF o (Aw rows) (List.replicate n 0) i v h.po.1 (fun y hy=>by rw[List.length_replicate];exact h.po.2.1 y hy) hv
 rw[←h.tt] at hT
 rcases KV (A:=TQ (Aw rows) (o.take i)) (v:=v) (Gv:=o.drop (i+1)) with h1 | ⟨k,p,h1,h2,h3,h4⟩
 ·exact .inl (hT.trans h1)
 ·exact .inr ⟨i+1+k,p,hT.trans h1,by rw[←List.getElem?_drop];exact h2,by omega⟩
theorem ZJ {N n:Nat} {rows:List (List Int)} {T W:List Int} {o:List Nat} {f p:LA} {e:Bool} {q:Nat} {m ii:Int} {k2:Int→O R} {k4:Int→Int→Int→O R} {r0:Bool→O R} (h:FoOk n rows T W o) (hn:n≤1000) {j w:Nat} (hw:o[j]?=some w) {s:Int} :
  ∀ (fuel i x st:Nat),o[i]?=some x→i≤j→(i<j→TQ (Aw rows) (o.take i) x w=true)→st+(j - i)<n→j - i<fuel →
   Bp N k2 k4 r0 f n e n (w:Int) p q m ii (Ab T) (Ab W) fuel s (x:Int) (st:Int)=k4 s m (wrap .i64 (ii+1))
 | 0,_,_,_,_,_,_,_,h=>by omega
 | fuel+1,i,x,st,hx,hij,hA,hst,hf=>by
  rw[Bp,Ek]
  by_cases e1:x=w
  ·subst e1
   have:(((x:Nat):Int) != ((x:Nat):Int))=false:=by simp
   rw[this];rfl
  ·have hlt:i<j:=by
    by_cases e2:i=j
    ·subst e2;rw[hx] at hw;injection hw with hw;exact absurd hw e1
    ·omega
   have hne:(((x:Nat):Int) != ((w:Nat):Int))=true:=by simp;omega
   have hxn:=h.po.2.1 x (List.mem_of_getElem? hx)
   obtain⟨i',y,a1,a2,a3,a4,a5⟩:=U' h.po hx hw hlt (hA hlt)
   rw[hne,decide_eq_true (show((x:Nat):Int)≥0 by omega),decide_eq_true (show((st:Nat):Int)<(n:Int) by omega)]
   simp only[beq_self_eq_true,cond_true]
   rw[A8 hxn,cond_true,Fu (by rw[h.Tlen];exact hxn),h.tt,a4,wS (by omega),←h.tt]
   exact ZJ h hn hw fuel i' y (st+1) a3 a2 a5 (by omega) (by omega)
theorem ZK {N n:Nat} {rows:List (List Int)} {T W:List Int} {o:List Nat} {f:LA} {e:Bool} {k2:Int→O R} {r0:Bool→O R} (h:FoOk n rows T W o) (hN:2000≤N) (hn:n≤1000) {v:Nat} (hv:v<n) :
  ∀ (fuel i:Nat),i≤(Ah rows v).length→(Ah rows v).length - i<fuel →
   Bq N k2 r0 f n e n (Ab (Ah rows v)) (Ah rows v).length (Ab T) (Ab W) fuel (v:Int) ((Ah rows v).length:Int) (i:Int)=k2 ((v+1:Nat):Int)
 | 0,_,_,h=>by omega
 | fuel+1,i,hi,hf=>by
  have hrl:=V9 h.vg v
  have hrn:=h.rl
  rw[Bq,El]
  by_cases hlt:i<(Ah rows v).length
  ·have hm:=List.mem_of_getElem? (getD_some hlt)
   obtain⟨t,ht,htn,htv,_⟩:=Yj h.vg hm
   have hWl:=h.ww.1
   obtain⟨iv,hiv,hivn⟩:=h.idx hv
   obtain⟨it,hit,hitn⟩:=h.idx (show t<n by omega)
   rw[Kc (by omega),cond_true,A8 hlt,cond_true,Gn hlt,ht,A8 (by omega),cond_true,Fu (by omega),A8 hv,cond_true,Fu (by omega),h.W hit,h.W hiv,wS (by omega)]
   have ih:=ZK (f:=f) (e:=e) (k2:=k2) (r0:=r0) h hN hn hv fuel (i+1) (by omega) (by omega)
   by_cases hlt2:it<iv
   ·rw[decide_eq_true (show((it:Nat):Int)<(iv:Int) by omega),cond_true];exact ih
   ·rw[decide_eq_false (show ¬ ((it:Nat):Int)<(iv:Int) by omega),cond_false]
    refine Eq.trans (ZJ h hn hit N iv v 0 hiv (by omega) (fun hlt3=>?_) (by omega) (by omega)) ?_
    ·refine IK _ _ (H5 h.po.1 hiv (Nat.le_refl _)) (H5 h.po.1 hit (by omega)) ?_
     unfold Aw
     rw[ht] at hm
     exact decide_eq_true hm
    ·rw[wS (by omega)];exact ih
  ·rw[Ja (by omega),cond_false,wS (by omega)]
theorem ZL {N n:Nat} {rows:List (List Int)} {T W:List Int} {o:List Nat} {f:LA} {e:Bool} {r0:Bool→O R} (h:FoOk n rows T W o) (hg:GR f rows) (hN:2000≤N) (hn:n≤1000) :
  ∀ (fuel l:Nat),l≤n→n - l<fuel→Az N r0 f n e n (Ab T) (Ab W) fuel (l:Int)=r0 true
 | 0,_,_,h=>by omega
 | fuel+1,l,hl,hf=>by
  rw[Az,En]
  by_cases hlt:l<n
  ·have hWl:=h.ww.1
   have hTl:=h.Tlen
   have hrn:=h.rl
   obtain⟨i,hi,hin⟩:=h.idx hlt
   have join:Cb N (Az N r0 f n e n (Ab T) (Ab W) fuel) r0 f n e n (Ab T) (Ab W) (l:Int)=r0 true:=by
    rw[Cb,Em,A8 hlt,cond_true,Jl hg (by omega)]
    have hrl:=V9 h.vg l
    refine Eq.trans (ZK h hN hn hlt N 0 (Nat.zero_le _) (by omega)) ?_
    exact ZL h hg hN hn fuel (l+1) (by omega) (by omega)
   rw[Kc (by omega),cond_true,A8 hlt,cond_true,Fu (by omega)]
   rcases h.par hi with hp | ⟨j,p,hp,hj,hij⟩
   ·rw[hp,decide_eq_false (show ¬ (-1:Int)≥(n:Int) by omega)]
    simp only[beq_self_eq_true,cond_true]
    rw[Fu (by omega),hp]
    exact join
   ·have hpn:=h.po.2.1 p (List.mem_of_getElem? hj)
    rw[hp,decide_eq_false (show ¬ (p:Int)≥(n:Int) by omega)]
    simp only[beq_self_eq_true,cond_true]
    rw[Fu (by omega),hp,decide_eq_true (show(p:Int)≥0 by omega)]
    simp only[beq_self_eq_true,cond_true]
    rw[Fu (by omega),hp,A8 hpn,cond_true,Fu (by omega),Fu (by omega),h.W hj,h.W hi,decide_eq_false (show ¬ (j:Int)≤(i:Int) by omega)]
    exact join
  ·rw[Ja (by omega),cond_false]
theorem ZM {N n:Nat} {o:List Nat} {T:List Int} {f:LA} {e:Bool} {r0:Bool→O R} {Y:O R} (hp:Im n o) (hn:n≤1000) (hK:∀ W,SD n (Ap o) W→Az N r0 f n e n (Ab T) (Ab W) N 0=Y) :
  ∀ (fuel w:Nat) (P:List Int),w≤n→n - w<fuel→P.length=n→(∀ k:Nat,k<w→P.getD ((Ap o).getD k 0).toNat 0=(k:Int)) →
   Cc N r0 f n e n n (Ab (Ap o)) (Ab T) fuel (w:Int) (Ab P)=Y
 | 0,_,_,_,h,_,_=>by omega
 | fuel+1,w,P,hw,hf,hP,hk=>by
  have hlen:(Ap o).length=n:=by rw[A2];exact hp.2.2
  have hol:=hp.2.2
  rw[Cc,Eo]
  by_cases hlt:w<n
  ·obtain⟨x,hx⟩:∃ x,o[w]?=some x:=⟨_,List.getElem?_eq_getElem (by omega)⟩
   have hxn:=hp.2.1 x (List.mem_of_getElem? hx)
   rw[Kc (by omega),cond_true,A8 hlt,cond_true,Fu (by omega),Bu hx,A8 hxn,cond_true,M_ (x:=x) (by rw[Ci];omega),cond_true,UV,wS (by omega)]
   refine ZM hp hn hK fuel (w+1) _ (by omega) (by omega) (by simpa using hP) (fun k hk2=>?_)
   obtain⟨y,hy⟩:∃ y,o[k]?=some y:=⟨_,List.getElem?_eq_getElem (by omega)⟩
   rw[Bu hy,Int.toNat_natCast,K8 (by omega)]
   by_cases hkw:k=w
   ·subst hkw;rw[hx] at hy;injection hy with hy;rw[if_pos hy.symm]
   ·have:y≠x:=by
     intro e
     subst e
     obtain⟨a1,a2⟩:=List.getElem?_eq_some_iff.1 hy
     obtain⟨a3,a4⟩:=List.getElem?_eq_some_iff.1 hx
     have:=(List.getElem_inj hp.1).1 (a2.trans a4.symm)
     omega
    rw[if_neg this]
    have:=hk k (by omega)
    rw[Bu hy,Int.toNat_natCast] at this
    exact this
  ·rw[Ja (by omega),cond_false]
   have:w=n:=by omega
   subst this
   exact hK P ⟨hP,fun k h=>hk k (by omega)⟩
theorem SM {N:Nat} {ch pm:List Int} {s l t u:Bool} {r0:Bool→O R} (hN:2000≤N) (hch:ch.length≤9223372036854775807) (hpm:pm.length≤9223372036854775807) :
  Cd N (Ab ch) ch.length s l (Ab pm) pm.length t u r0=r0 true:=by
 rw[Hm,Dy]
 obtain⟨gc,rx,h1,h2,h3,h4⟩:=IH (R:=R) (p:=false) (e:=l) hN hch
 obtain⟨o,k',hp,hpK⟩:=EP (R:=R) (N:=N) (n:=rx.length) (l:=pm) (d:=false) (e:=u) hN hpm (by omega)
 have hpl:(Ap o).length=rx.length:=by rw[A2];exact hp.2.2
 rw[h4,IF,hpK]
 have e1:=Sf (l:=Ap o)
 rw[hpl] at e1
 rw[e1]
 have hT:=IE (N:=N) (rows:=rx) (ord:=Ap o) (d:=gc) (q:=false) (p:=false) (f:=false) (e:=true) (r0:=(fun c aq d=>(Ck N (fun ar=>(cond ((!ar)==false) (cond ((cond false true (aq != 0))==false) (cond (cond false true (((c:Nat):Int) != ((rx.length:Nat):Int))) (r0 false) (Br N r0 gc rx.length false rx.length c (Ab (Ap o)) d)) (r0 false)) (r0 false)))))) hN h1 (by omega) (Sg h2 (by omega)) (by rw[hpl];omega)
 rw[hpl] at hT
 refine Eq.trans hT ?_
 have ht:aO rx (Ap o)=(La (Aw rx) o (List.replicate rx.length 0),0):=by
  unfold aO;rw[h2,PZ hp,KW];rfl
 have htl:(La (Aw rx) o (List.replicate rx.length 0)).length=rx.length:=by rw[Se];simp
 rw[ht,II hN,htl]
 have hz:(((rx.length:Nat):Int) != ((rx.length:Nat):Int))=false:=by simp
 rw[hz]
 have hb:(decide (0≤((rx.length:Nat):Int))&&(decide (((rx.length:Nat):Int)≤((rx.length:Nat):Int))&&(decide (((rx.length:Nat):Int)≤140737488355328)&&decide (((rx.length:Nat):Int)*((8:Nat):Int)≤140737488355328))))=true:=by simp;omega
 show Br N r0 gc rx.length false rx.length rx.length (Ab (Ap o)) (Ab (La (Aw rx) o (List.replicate rx.length 0)))=r0 true
 rw[Br,Ep,hb,cond_true,XZ]
 exact ZM hp (by omega) (fun W hW=>ZL ⟨hp,rfl,h2,rfl,hW⟩ h1 hN (by omega) N 0 (Nat.zero_le _) (by omega)) N 0 _ (Nat.zero_le _) (by omega) (by simp) (fun k h=>by omega)
end
end Gx

namespace Gx
open Go
open IntKind (wrap)
section
theorem P_ {A:Nat→Nat→Bool}:∀ (l:List Nat) {p q:List Nat},p.Perm q→D2 A p l=D2 A q l
 | [],_,_,_=>rfl
 | w::r,p,q,h=>by
  rw[D2,D2,h.countP_eq,P_ r (h.append_right [w])]
theorem VA {A:Nat→Nat→Bool} (hs:∀ i j,A i j=A j i) {l m:List Nat} (h:l.Perm m):∀ p,D2 A p l=D2 A p m:=by
 induction h with
 | nil=>intro p;rfl
 | cons x _ ih=>intro p;rw[D2,D2,ih]
 | swap x y l =>
  intro p
  rw[D2,D2,D2,D2,List.countP_append,List.countP_append,P_ l (p:=p++[y]++[x]) (q:=p++[x]++[y]) (by
   rw[List.append_assoc,List.append_assoc]
   exact List.Perm.append_left p (List.Perm.swap x y []))]
  have h1:List.countP (fun z=>!A x z) [y]=List.countP (fun z=>!A y z) [x]:=by simp[hs x y]
  rw[h1];omega
 | trans _ _ ih1 ih2=>intro p;rw[ih1,ih2]
theorem P' {A B:Nat→Nat→Bool} {p:Nat→Nat}:∀ (l pre:List Nat),(∀ i j,i ∈ l→j ∈ pre∨j ∈ l→B (p i) (p j)=A i j)→D2 B (pre.map p) (l.map p)=D2 A pre l
 | [],_,_=>rfl
 | w::r,pre,h=>by
  rw[List.map_cons,D2,D2]
  have h1:List.countP (fun x=>!B (p w) x) (pre.map p)=List.countP (fun x=>!A w x) pre:=by
   rw[List.countP_map]
   apply List.countP_congr
   intro x hx
   simp only[Function.comp]
   rw[h w x List.mem_cons_self (.inl hx)]
  have h2:=P' (A:=A) (B:=B) (p:=p) r (pre++[w]) (fun i j hi hj=>h i j (List.mem_cons_of_mem _ hi) (by
   rcases hj with hj | hj
   ·rcases List.mem_append.1 hj with hj | hj
    ·exact .inl hj
    ·exact .inr (by rw[List.mem_singleton.1 hj];exact List.mem_cons_self)
   ·exact .inr (List.mem_cons_of_mem _ hj)))
  rw[List.map_append,List.map_singleton] at h2
  rw[h1,h2]
structure Ren (n:Nat) (p:Nat→Nat):Prop where
 lt:∀ i,i<n→p i<n
 inj:∀ i j,i<n→j<n→p i=p j→i=j
theorem YB {n:Nat} {p:Nat→Nat} {A B:Nat→Nat→Bool} (hp:Ren n p) (h:∀ i j,i<n→j<n→B (p i) (p j)=A i j) {v:Nat} (hv:v<n):(A6 n B (p v)).Perm ((A6 n A v).map p):=by
 have hmn:((A6 n A v).map p).Nodup:=by
  unfold List.Nodup
  rw[List.pairwise_map]
  refine List.Pairwise.imp_of_mem (R:=(·≠·)) (fun {a b} ha hb hab e=>hab (hp.inj a b (Bn.1 ha).1 (Bn.1 hb).1 e)) (Wt n A v)
 have hall:((List.range n).map p).Nodup:=by
  unfold List.Nodup
  rw[List.pairwise_map]
  refine List.Pairwise.imp_of_mem (R:=(·≠·)) (fun {a b} ha hb hab e=>hab (hp.inj a b (List.mem_range.1 ha) (List.mem_range.1 hb) e)) List.nodup_range
 refine(List.perm_ext_iff_of_nodup (Wt n B (p v)) hmn).2 (fun x=>?_)
 rw[Bn,List.mem_map]
 constructor
 ·rintro⟨hx,hb⟩
  have:x ∈ (List.range n).map p:=aN hall (fun y hy=>by obtain⟨z,hz,rfl⟩:=List.mem_map.1 hy;exact hp.lt z (List.mem_range.1 hz)) (by simp) hx
  obtain⟨y,hy,rfl⟩:=List.mem_map.1 this
  have hy:=List.mem_range.1 hy
  exact⟨y,Bn.2 ⟨hy,by rw[←h v y hv hy];exact hb⟩,rfl⟩
 ·rintro⟨y,hy,rfl⟩
  obtain⟨h1,h2⟩:=Bn.1 hy
  exact⟨hp.lt y h1,by rw[h v y hv h1];exact h2⟩
theorem VB {n:Nat} {p:Nat→Nat} {A B:Nat→Nat→Bool} (hp:Ren n p) (h:∀ i j,i<n→j<n→B (p i) (p j)=A i j) {v:Nat} (hv:v<n):∀ i j,i<n→j<n→Bt B (p v) (p i) (p j)=Bt A v i j:=by
 intro i j hi hj
 have hd:∀ a b,a<n→b<n→decide (p a=p b)=decide (a=b):=fun a b ha hb=>by
  by_cases e:a=b
  ·subst e;simp
  ·rw[decide_eq_false e,decide_eq_false (fun e2=>e (hp.inj a b ha hb e2))]
 rw[G7,G7,h i j hi hj,h v i hv hi,h v j hv hj,hd i v hi hv,hd j v hj hv,hd i j hi hj]
theorem IL {n:Nat} {p:Nat→Nat} (hp:Ren n p):∀ (o:List Nat) (A B:Nat→Nat→Bool),Gr A→Gr B→(∀ i j,i<n→j<n→B (p i) (p j)=A i j)→(∀ x ∈ o,x<n)→Hq n B (o.map p)=Hq n A o
 | [],_,_,_,_,_,_=>rfl
 | v::r,A,B,hA,hB,h,ho=>by
  have hv:=ho v List.mem_cons_self
  rw[List.map_cons,Hq,Hq,IL hp r (Bt A v) (Bt B (p v)) (K7 hA v) (K7 hB _) (VB hp h hv) (fun x hx=>ho x (List.mem_cons_of_mem _ hx)),
   VA hB.sym (YB hp h hv)]
  have:=P' (A:=A) (B:=B) (p:=p) (A6 n A v) [] (fun i j hi hj=>h i j (Bn.1 hi).1 (by
   rcases hj with hj | hj
   ·cases hj
   ·exact(Bn.1 hj).1))
  rw[List.map_nil] at this
  rw[this]
end
end Gx
