/- A part of the proof: what it holds is said by each theorem. -/
import Derived.Test.YtlkhmflligkbkaaGreatP4
set_option linter.unusedVariables false
namespace Gx
open Go Go.RowKit
section
variable {P:Program} {W:World} {H:Type} {enc:TypeId×Value→H} {β:Cb} {h:Aj}
theorem Ayc {t:TypeId} {fs:Array Field} {b0:Nat} {r:Reach} {v:Value} (hu:P.underlying t=some (.struct fs)) (h:Value.okWide P W r b0 t v):∃ cs,v=.agg cs:=by
  unfold Value.okWide at h
  rw [hu] at h
  obtain ⟨cs,h,_⟩:=h
  exact ⟨cs,h⟩
theorem Bxs {J:Nat→Prop}:∀ {x:AV} {u:Value},RepC J W x u→Rep (fun _=>J) β h W x u
  | .int ..,_,h=>by rw [Rep];rw [RepC] at h;exact h
  | .bool _,_,h=>by rw [Rep];rw [RepC] at h;exact h
  | .str _,_,h=>by rw [Rep];rw [RepC] at h;exact h
  | .nsl,_,h=>by rw [Rep];rw [RepC] at h;exact h
  | .imm ..,_,h=>by rw [Rep];exact h
  | .iptr ..,_,h=>by rw [Rep];exact h
  | .nilptr,_,h=>by rw [Rep];rw [RepC] at h;exact h
  | .nilfn,_,h=>by rw [Rep];rw [RepC] at h;exact h
  | .fn f [],_,h=>by
    rw [Rep];rw [RepC] at h
    exact ⟨[],by simpa using h,by rw [Reps]⟩
  | .fn _ (_::_),_,h=>by simp [RepC] at h
  | .pagg ..,_,h=>by simp [RepC] at h
  | .agg _,_,h=>by simp [RepC] at h
  | .tup _,_,h=>by simp [RepC] at h
  | .own ..,_,h=>by simp [RepC] at h
  | .omap _,_,h=>by simp [RepC] at h
  | .optr ..,_,h=>by simp [RepC] at h
  | .undef,_,h=>by simp [RepC] at h
theorem Buq {J:Nat→Prop}:∀ {c:List AV} {cs:List Value} {rd:Nat→Option Value} {i:Nat},cs.length=c.length→(∀ j,cs[j]?=rd (i+j))→RepCs J W c rd i→Reps (fun _=>J) β h W c cs
  | [],cs,_,_,hl,_,_=>by rw [Reps];simpa using hl
  | x::r,[],_,_,hl,_,_=>by simp at hl
  | x::r,u::us,rd,i,hl,hr,hc=>by
    rw [RepCs] at hc
    obtain ⟨⟨u',hu',hx⟩,hc⟩:=hc
    have h0:=hr 0
    simp only [List.getElem?_cons_zero,Nat.add_zero] at h0
    rw [← h0] at hu'
    cases hu'
    rw [Reps]
    refine ⟨u,us,rfl,Bxs hx,Buq (by simpa using hl) (fun j=>?_) hc⟩
    have:=hr (j+1)
    rw [List.getElem?_cons_succ] at this
    rw [this];congr 1;omega
theorem Bur {c:List AV} {v:Value} (hr:Rep (fun _ k=>k<W.heap.size) β h W (.pagg c false) v):Rep (fun _ k=>k<W.heap.size) β h W (.agg c) v:=by
  rw [Rep] at hr
  obtain ⟨cs,hv,hl,hc⟩:=hr
  rw [Rep]
  exact ⟨cs,hv,Buq hl (fun j=>by rw [Nat.zero_add]) hc⟩
end
end Gx

namespace Gx
open Go Go.Proofs Go.RowKit
section
variable {W:World} {H:Type} {enc:TypeId×Value→H} {β:Cb} {h:Aj}
theorem Du:Opens Tryz.prog 3 Bxy 1:=(Bmo Tryz.underlying3 (by kernel_rfl)).map Bxy (fun n=>n.1) (fun _=>rfl) (fun _=>rfl)
theorem Bvy:Opens Tryz.prog 79 SegD.av 2 :=
  (Zj Tryz.underlying79 (by kernel_rfl) (by decide) (A0 rfl Du (A0 rfl Du Anw))).map SegD.av (fun p=>⟨p.1,p.2.1⟩) (fun _=>rfl) (fun _=>rfl)
theorem Bvz {v:Value} {d:DataW H} {p:List MemPlace} (hv:∃ cs,v=.agg cs) (hd:DataW.Trod enc Tryz.prog W 0 (fun _=>true) true 25 v d p) :
    ∃ (a:List UInt8) (b d e:Int) (sg:List SegD) (g i j l m t u w n o x p q:Int) (aw:List Int) (z aa r:Int),Rep (fun _ k=>k<W.heap.size) β h W (.agg [AV.str a,(.int .i64 b),(.int .i64 d),(.int .i64 e),(.imm (sg.flatMap SegD.av) sg.length 2 false false),(.int .i64 g),(.int .i64 i),(.int .i64 j),(.int .i64 l),(.int .i64 m),(.int .i64 t),(.int .i64 u),(.int .i64 w),(.int .i64 n),(.int .i64 o),(.int .i64 x),(.int .i64 p),(.int .i64 q),(.imm (G6 aw) aw.length 1 false false),(.int .i64 z),(.int .i64 aa),(.int .i64 r)]) v:=by
  obtain ⟨cs,rfl⟩:=hv
  obtain ⟨⟨⟨a, _⟩, b, d, e, ⟨sg, _⟩, g, i, j, l, m, t, u, w, n, o, x, p, q, ⟨aw, _⟩, z, aa, r, _⟩, hr⟩ := Bq8 (β := β) (h := h) (Zj (P := Tryz.prog) Tryz.underlying25 (by kernel_rfl) (by decide)
      (A0 rfl (Bph Tryz.underlying9 (by kernel_rfl)) (A0 rfl Du (A0 rfl Du (A0 rfl Du
      (A0 rfl (Atn Tryz.underlying22 (by kernel_rfl) Bvy)
      (A0 rfl Du (A0 rfl Du (A0 rfl Du (A0 rfl Du (A0 rfl Du (A0 rfl Du (A0 rfl Du (A0 rfl Du (A0 rfl Du (A0 rfl Du (A0 rfl Du (A0 rfl Du (A0 rfl Du
      (A0 rfl (Atn Tryz.underlying23 (by kernel_rfl) Du)
      (A0 rfl Du (A0 rfl Du (A0 rfl Du Anw))))))))))))))))))))))) hd
  refine ⟨a,b,d,e,sg,g,i,j,l,m,t,u,w,n,o,x,p,q,aw,z,aa,r,?_⟩
  rw [← Avx]
  exact Bur hr
end
end Gx

namespace Gx
open Go Go.Proofs Go.RowKit
theorem Bxt {n:Int} (h:(Lit.int .u32 n).wf=true):0≤n∧n<4294967296:=by
  simp only [Lit.wf,Bool.and_eq_true,decide_eq_true_eq,show IntKind.u32.min=0 from rfl,show IntKind.u32.max=4294967295 from rfl] at h;omega
section
variable {W:World} {H:Type} {enc:TypeId×Value→H} {β:Cb} {h:Aj}
theorem Btr:Opens Tryz.prog 113 (α:={ n:Nat // n<4294967296 }) (fun n=>[.int .u32 (n.1:Int)]) 1 :=
  (Bmo Tryz.underlying113 (by kernel_rfl)).map _ (fun n=>⟨n.1.toNat,by have:=Bxt n.2;omega⟩) (fun n=>by have:=Bxt n.2;simp;omega) (fun _=>rfl)
theorem Bm6:∀ l:List { n:Nat // n<4294967296 },l.flatMap (fun n=>[AV.int .u32 (n.1:Int)])=Ad (l.map (·.1))
  | []=>rfl
  | a::r=>by rw [List.flatMap_cons,Bm6 r];rfl
theorem Bcm:Opens Tryz.prog 33 (α:={ l:List Nat // Af l }) (fun l=>[.imm (Ad l.1) l.1.length 1 false false]) 1 :=
  (Atn Tryz.underlying33 (by kernel_rfl) Btr).map _ (fun l=>⟨l.1.map (·.1),fun x hx=>by obtain ⟨y,_,rfl⟩:=List.mem_map.1 hx;exact y.2⟩) (fun l=>by show [AV.imm (l.1.flatMap (fun n=>[AV.int .u32 (n.1:Int)])) l.1.length 1 false false]=[AV.imm (Ad (l.1.map (·.1))) (l.1.map (·.1)).length 1 false false];rw [Bm6,List.length_map]) (fun _=>rfl)
theorem Bxu {v:Value} {d:DataW H} {p:List MemPlace} (hv:∃ cs,v=.agg cs) (hd:DataW.Trod enc Tryz.prog W 0 (fun _=>true) true 37 v d p) :
    ∃ (neg:Bool) (l1 l2:List Nat),Af l1∧Af l2∧Rep (fun _ k=>k<W.heap.size) β h W (.agg [.bool neg,.imm (Ad l1) l1.length 1 false false,.imm (Ad l2) l2.length 1 false false]) v:=by
  obtain ⟨cs,rfl⟩:=hv
  obtain ⟨⟨⟨n,l1,h1⟩,⟨l2,h2⟩,_⟩,hr⟩:=Bq8 (β:=β) (h:=h) (Zj Tryz.underlying37 (by kernel_rfl) (by decide) (A0 rfl (Zj Tryz.underlying35 (by kernel_rfl) (by decide) (A0 rfl (Bta Tryz.underlying4 (by kernel_rfl)) (A0 rfl Bcm Anw)))
    (A0 rfl Bcm Anw))) hd
  exact ⟨n,l1.1,l2,l1.2,h2,Bur hr⟩
end
end Gx
