/- A part of the proof: what it holds is said by each theorem. -/
import Derived.Test.YtjmfofdghmlldaaGreatDoorP4V
set_option linter.unusedVariables false
set_option linter.defProp false
set_option linter.unusedSimpArgs false
namespace Gx.Cf
open Go Go.Proofs
section
variable {R:Type}
theorem Arw {i:Nat} (hi:i<8):((Nat.beq 0 0)&&((Nat.beq ((Ig i).length) 5)&&(Nat.beq 5 5)))=true∧(∀ F:List UInt8→O R,Ts ((Ig i).drop 1) F=F (Nr.getD i []))∧(Nr.getD i []).length≤6:=by
 rcases i with _ | _ | _ | _ | _ | _ | _ | _ | i
 all_goals first | omega | exact⟨rfl,fun _=>rfl,by decide⟩
theorem Ax2 {N:Nat} {c:CaseD} (hs:Small c N) (b:Cc c=none) {e:EvD} (h:rx c e=true):(U2 c e).length≤72:=by
 obtain⟨i,hi,m,f,j,l⟩:=tj hs (Kq b) h
 have d:(e.k - 1).toNat=i:=by omega
 have l0:=GB b f;have l1:=GB b j;have l2:=GB b l
 have l3:=(Arw (R:=Nat) hi).2.2
 rw[Ma,d]
 simp only[List.length_append]
 omega
theorem Ags {c:CaseD} {l:List EvD} {m:Nat} (h:m<l.length):FL c (l.take (m+1))=FL c (l.take m)++(U2 c l[m]++[10]):=by
 unfold FL
 rw[List.take_succ_eq_append_getElem h,List.flatMap_append,List.flatMap_cons,List.flatMap_nil,List.append_nil]
theorem zT {N:Nat} {c:CaseD} (hs:Small c N) (b:Cc c=none):∀ (l:List EvD),(∀ e ∈ l,rx c e=true)→(FL c l).length≤l.length*73
 | [],_=>by simp[FL]
 | e::r,h=>by
  have f:=Ax2 hs b (h e (by simp))
  have i:=zT hs b r (fun x d=>h x (List.mem_cons_of_mem _ d))
  have e1:FL c (e::r)=(U2 c e++[10])++FL c r:=by unfold FL;rw[List.flatMap_cons]
  rw[e1,List.length_append,List.length_append,List.length_singleton,List.length_cons]
  omega
theorem A9i {N m fuel:Nat} {c:CaseD} {d g f:Bool} {j:List UInt8→Int→O R} {l:List EvD} {s:List UInt8} (hN:100≤N) (h:m<l.length) (u:l.length≤1000000) (hs:Small c N) (n:Cc c=none) (x:s.length≤10000000) :
  Fj N j (l.flatMap EvD.av) l.length g f d c.av (fuel+1) (l.length:Int) (m:Int) s.length (Cb s)=cond (rx c l[m]) (Fj N j (l.flatMap EvD.av) l.length g f d c.av fuel (l.length:Int) ((m+1:Nat):Int) (s++(U2 c l[m]++[10])).length (Cb (s++(U2 c l[m]++[10])))) (j [] 1):=by
 obtain⟨y,z⟩:=fj l m h
 have A:((!f)||Az l[m].av)=true:=by cases f<;>rfl
 rw[Fj];unfold Z0
 rw[Hy h,ct,Ab h,ct]
 simp only[Int.toNat_natCast,y,z,A,ct]
 refine Eq.trans (b:=Qq N c.av d (Af5 l[m].k l[m].a l[m].b l[m].v) false _) rfl ?_
 rw[Zz hs (Kq n)]
 have t:rx c l[m]=S8 c l[m].k l[m].a l[m].b l[m].v:=rfl
 cases q:S8 c l[m].k l[m].a l[m].b l[m].v with
 | false=>rw[t,q];rfl
 | true =>
  obtain⟨i,hi,K,C,D,F⟩:=tj hs (Kq n) q
  have e:(l[m].k - 1).toNat=i:=by omega
  obtain⟨G,I,w3⟩:=Arw (R:=R) hi
  rw[t,q]
  refine Eq.trans (b:=L7 N l[m].k _) rfl ?_
  rw[IL (by omega),if_pos (by omega),e,G,ct,I,zM (by omega)]
  refine Eq.trans (b:=Ch N _ j (l.flatMap EvD.av) l.length g f d c.av N (l.length:Int) (m:Int) l[m].a l[m].b l[m].v 0 (s++Nr.getD i []).length (Ig i) (Cb (s++Nr.getD i []))) rfl ?_
  rw[A8e (by omega) hi hs n C D F (by rw[List.length_append];omega),wS (by omega),Ma,e]
  simp only[List.append_assoc]
  rfl
theorem A9j {N fuel:Nat} {c:CaseD} {d g f:Bool} {j:List UInt8→Int→O R} {l:List EvD} (hN:100≤N) (h:0<l.length) (u:l.length≤1000000) (hs:Small c N) (m:Cc c=none) :
  Hu N j (l.flatMap EvD.av) l.length g f d c.av (fuel+1) (l.length:Int)=cond (rx c l[0]) (Fj N j (l.flatMap EvD.av) l.length g f d c.av fuel (l.length:Int) ((0+1:Nat):Int) (U2 c l[0]++[10]).length (Cb (U2 c l[0]++[10]))) (j [] 1):=by
 obtain⟨q,s⟩:=fj l 0 h
 rw[Nat.zero_mul,List.drop_zero] at q s
 have x:((!f)||Az l[0].av)=true:=by cases f<;>rfl
 rw[Hu];unfold Z1
 rw[show decide ((0:Int)<(l.length:Int))=true by simp;omega,ct,show Ae (0:Int) l.length=true from Ab (i:=0) h,ct]
 simp only[q,s,x,ct]
 refine Eq.trans (b:=Qq N c.av d (Af5 l[0].k l[0].a l[0].b l[0].v) false _) rfl ?_
 rw[Zz hs (Kq m)]
 have t:rx c l[0]=S8 c l[0].k l[0].a l[0].b l[0].v:=rfl
 cases n:S8 c l[0].k l[0].a l[0].b l[0].v with
 | false=>rw[t,n];rfl
 | true =>
  obtain⟨i,hi,F,y,z,A⟩:=tj hs (Kq m) n
  have e:(l[0].k - 1).toNat=i:=by omega
  obtain⟨C,D,w3⟩:=Arw (R:=R) hi
  rw[t,n]
  refine Eq.trans (b:=L7 N l[0].k _) rfl ?_
  rw[IL (by omega),if_pos (by omega),e,C,ct,D,A89 (by omega)]
  refine Eq.trans (b:=Ch N _ j (l.flatMap EvD.av) l.length g f d c.av N (l.length:Int) 0 l[0].a l[0].b l[0].v 0 (Nr.getD i []).length (Ig i) (Cb (Nr.getD i []))) rfl ?_
  rw[A8e (by omega) hi hs m y z A (by omega),Ma,e]
  simp only[List.append_assoc]
  rfl
theorem A8f {N:Nat} {c:CaseD} {d g f:Bool} {q:List UInt8→Int→O R} {l:List EvD} (hN:100≤N) (s:l.length≤256) (hs:Small c N) (k:Cc c=none):∀ (j m fuel:Nat),m+j=l.length→j<fuel→1≤m→(∀ e ∈ l.take m,rx c e=true) →
  Fj N q (l.flatMap EvD.av) l.length g f d c.av fuel (l.length:Int) (m:Int) (FL c (l.take m)).length (Cb (FL c (l.take m)))=cond ((l.drop m).all (rx c)) (q (FL c l) 0) (q [] 1)
 | 0,m,fuel+1,v,_,n,b=>by
  have t:m=l.length:=by omega
  subst t
  rw[Fj];unfold Z0
  rw[List.take_length] at b ⊢
  have:=zT hs k l b
  have u:FL c l≠[]:=by
   cases l with
   | nil=>simp at n
   | cons e r=>unfold FL;rw[List.flatMap_cons];simp
  rw[Jf (by omega),cf,A88 u (by omega),List.drop_length]
  rfl
 | j+1,m,fuel+1,v,A,n,b=>by
  have h:m<l.length:=by omega
  have x:(FL c (l.take m)).length≤256*73:=by
   have n:=zT hs k _ b
   have y:(l.take m).length≤256:=by rw[List.length_take];omega
   exact Nat.le_trans n (Nat.mul_le_mul_right _ y)
  rw[A9i hN h (by omega) hs k (by omega),List.drop_eq_getElem_cons h,List.all_cons]
  cases z:rx c l[m] with
  | false=>rfl
  | true =>
   rw[ct,Bool.true_and,←Ags h]
   exact A8f hN s hs k j (m+1) fuel (by omega) (by omega) (by omega) (fun e i=>by
    rw[List.take_succ_eq_append_getElem h,List.mem_append,List.mem_singleton] at i
    rcases i with i | rfl
    ·exact b e i
    ·exact z)
noncomputable def iE (c:CaseD) (l:List EvD):List UInt8×Int:=match Cc c with
 | some x=>([],x.2.1)
 | none=>if 256<l.length then ([],8) else if l.all (rx c)=true then (FL c l,0) else ([],1)
theorem gD {N:Nat} {c:CaseD} {d g f:Bool} {K:List UInt8→Int→O R} {l:List EvD} (hN:4096≤N) (hs:Small c N):Yv N c.av d (l.flatMap EvD.av) l.length g f K=K (iE c l).1 (iE c l).2:=by
 rw[l_];unfold VO iE
 rw[D8,ct,B6,NR hs]
 cases k:Cc c with
 | some x =>
  have:(Bp (some x) != 0)=true:=by rw[bne_iff_ne];exact x.2.2
  dsimp only
  rw[this]
  rfl
 | none =>
  dsimp only
  refine Eq.trans (b:=cond (decide (((l.length:Nat):Int)>256)) (K [] 8) (Hu N K (l.flatMap EvD.av) l.length g f d c.av N (l.length:Int))) rfl ?_
  by_cases h:256<l.length
  ·rw[if_pos h,decide_eq_true (by omega)];rfl
  rw[if_neg h,decide_eq_false (by omega),cf]
  obtain⟨n,hn⟩:∃ n,N=n+1:=⟨N - 1,by omega⟩
  have key:Hu N K (l.flatMap EvD.av) l.length g f d c.av (n+1) (l.length:Int)=K (if l.all (rx c)=true then (FL c l,(0:Int)) else ([],1)).1 (if l.all (rx c)=true then (FL c l,(0:Int)) else ([],1)).2:=by
   by_cases h0:l.length=0
   ·obtain rfl:l=[]:=List.length_eq_zero_iff.1 h0
    rw[Hu];unfold Z1
    rw[jc]
    rfl
   ·have j:0<l.length:=by omega
    rw[A9j (by omega) j (by omega) hs k]
    have e1:U2 c l[0]++[10]=FL c (l.take 1):=by
     have:=Ags (c:=c) (l:=l) (m:=0) j
     rw[this];unfold FL;simp
    have q:l.all (rx c)=(rx c l[0]&&(l.drop 1).all (rx c)):=by
     cases l with
     | nil=>simp at j
     | cons e r=>rfl
    rw[q]
    cases s:rx c l[0] with
    | false=>rfl
    | true =>
     rw[ct,e1,A8f (by omega) (by omega) hs k (l.length - 1) 1 n (by omega) (by omega) (by omega) (fun e i=>by
      rw[List.take_succ_eq_append_getElem j,List.take_zero,List.nil_append,List.mem_singleton] at i
      subst i;exact s)]
     cases (l.drop 1).all (rx c)<;>rfl
  rw[←hn] at key
  exact key
end
end Gx.Cf

namespace Gx.Cf
open Go Go.Proofs
section
variable {R:Type}
theorem A15 {N b c:Nat} {d g:LA} {e f i l:Bool}:∃ t:Bool,∀ K:Bool→O R,fi N d b e f g c i l K=K t:=by
 refine⟨cond (decide (((b:Nat):Int)≤200)) (decide (((c:Nat):Int)≤200)) false,fun K=>?_⟩
 rw[r7];unfold th
 cases decide (((b:Nat):Int)≤200)<;>rfl
theorem Bat:∀ v:Nat,v<10→∃ q:Int,(q=1∨q=2∨q=3∨q=4∨q=5∨q=6∨q=7∨q=8)∧∀ F:Int→O R,Ap .i64 (List.drop (0+v*1) [(.int .i64 5),(.int .i64 1),(.int .i64 2),(.int .i64 4),(.int .i64 3),(.int .i64 5),(.int .i64 8),(.int .i64 6),(.int .i64 7),(.int .i64 5)]) F=F q:=by
 intro v b
 rcases v with _ | _ | _ | _ | _ | _ | _ | _ | _ | _ | v
 ·exact⟨5,by simp,fun _=>rfl⟩
 ·exact⟨1,by simp,fun _=>rfl⟩
 ·exact⟨2,by simp,fun _=>rfl⟩
 ·exact⟨4,by simp,fun _=>rfl⟩
 ·exact⟨3,by simp,fun _=>rfl⟩
 ·exact⟨5,by simp,fun _=>rfl⟩
 ·exact⟨8,by simp,fun _=>rfl⟩
 ·exact⟨6,by simp,fun _=>rfl⟩
 ·exact⟨7,by simp,fun _=>rfl⟩
 ·exact⟨5,by simp,fun _=>rfl⟩
 ·omega
theorem Bau {acc:List EvD} {e:EvD} {Q:Nat→LA→O R} (h:acc.length≤1000):cond ((Nat.ble (acc.length+1) 140737488355328)&&(Nat.ble ((acc.length+1)*32) 140737488355328)) (Q (acc.length+1) (List.take (acc.length*4) (acc.flatMap EvD.av)++[(.int .i64 e.k),(.int .i64 e.a),(.int .i64 e.b),(.int .i64 e.v)])) none=Q (acc++[e]).length ((acc++[e]).flatMap EvD.av):=by
 have c:((Nat.ble (acc.length+1) 140737488355328)&&(Nat.ble ((acc.length+1)*32) 140737488355328))=true:=by rw[Bs,Bs];simp;omega
 have d:List.take (acc.length*4) (acc.flatMap EvD.av)=acc.flatMap EvD.av:=List.take_of_length_le (by rw[Arj];exact Nat.le_refl _)
 rw[c,ct,d,List.flatMap_append,List.length_append,List.length_singleton]
 rfl
theorem DS {lo hi x:Int} (h:lo≤x∧x≤hi):BV lo hi x=true:=by unfold BV;rw[decide_eq_true h.1,decide_eq_true h.2];rfl
structure Made (c:CaseD):Prop where
 h:1≤c.hours∧c.hours≤3
 b:1≤c.buses.l.length∧c.buses.l.length≤100
 u:1≤c.units.l.length∧c.units.l.length≤100
 l:c.lines.l.length≤100
theorem A8g {c:CaseD} (g:eH c):Made c:=by
 obtain⟨H,d,bs,ls,us,ss,ts,os,b,og,i,rfl⟩:=g
 have j:=b.h;have e:=b.bl;have f:=b.ul;have k:=b.ll
 exact⟨⟨by show(1:Int)≤(H:Int);omega,by show(H:Int)≤3;omega⟩,⟨e.1,by show bs.length≤100;omega⟩,⟨f.1,by show us.length≤100;omega⟩,by show ls.length≤100;omega⟩
theorem yD {N:Nat} {c:CaseD} {raw:List Int} {i d:Bool} (m:Made c) (hs:Small c N) (S:raw.length≤9223372036854775807):∀ (j fuel k:Nat) (acc:List EvD),acc.length+j=30→j<fuel→k≤raw.length→(∀ e ∈ acc,rx c e=true) →
  ∃ x:List EvD,(∀ e ∈ x,rx c e=true)∧x.length≤30∧∀ K:Nat→LA→O R,D6 N K 30 i c.av (Aq raw) raw.length d fuel acc.length (k:Int) (acc.flatMap EvD.av)=K x.length (x.flatMap EvD.av)
 | 0,fuel+1,k,acc,hj,_,hk,V=>⟨acc,V,by omega,fun K=>by
  rw[D6];unfold Ta
  rw[Rn];unfold S7
  rw[decide_eq_false (show ¬ (((acc.length:Nat):Int)<30) by omega)]
  cases decide ((k:Int)<((raw.length:Nat):Int))<;>rfl⟩
 | j+1,fuel+1,k,acc,hj,hf,hk,V=>by
  have hm:=m.h;have hb:=m.b;have hu:=m.u;have hll:=m.l
  have done:∀ (e:EvD) (k':Nat),rx c e=true→k'≤raw.length→∃ x:List EvD,(∀ e ∈ x,rx c e=true)∧x.length≤30∧∀ K:Nat→LA→O R,cond ((Nat.ble (acc.length+1) 140737488355328)&&(Nat.ble ((acc.length+1)*32) 140737488355328)) (D6 N K 30 i c.av (Aq raw) raw.length d fuel (acc.length+1) (k':Int) (List.take (acc.length*4) (acc.flatMap EvD.av)++[(.int .i64 e.k),(.int .i64 e.a),(.int .i64 e.b),(.int .i64 e.v)])) none=K x.length (x.flatMap EvD.av):=fun e k' he hk'=>by
   obtain⟨x,s,A,D⟩:=yD (i:=i) (d:=d) m hs S j fuel k' (acc++[e]) (by rw[List.length_append,List.length_singleton];omega) (by omega) hk' (fun y L=>by
    rw[List.mem_append,List.mem_singleton] at L
    rcases L with L | rfl
    ·exact V y L
    ·exact he)
   exact⟨x,s,A,fun K=>(Bau (acc:=acc) (e:=e) (Q:=fun n C=>D6 N K 30 i c.av (Aq raw) raw.length d fuel n (k':Int) C) (by omega)).trans (D K)⟩
  by_cases hleft:k<raw.length
  ·obtain⟨v,X,v0,v1,I,U⟩:=nx (R:=R) (N:=N) (t:=false) (o:=d) S 10 (by omega) (by omega) k hk
   obtain⟨n,rfl⟩:∃ n:Nat,v=n:=⟨v.toNat,by omega⟩
   obtain⟨q,hq,F⟩:=Bat (R:=R) n (by omega)
   have open_:∀ K:Nat→LA→O R,D6 N K 30 i c.av (Aq raw) raw.length d (fuel+1) acc.length (k:Int) (acc.flatMap EvD.av)=Dq N (D6 N K 30 i c.av (Aq raw) raw.length d fuel) K 30 i c.av (Aq raw) raw.length d acc.length (k:Int) (acc.flatMap EvD.av):=fun K=>by
    rw[D6];unfold Ta
    rw[Rn];unfold S7
    rw[decide_eq_true (show(k:Int)<((raw.length:Nat):Int) by omega),decide_eq_true (show(((acc.length:Nat):Int)<30) by omega)]
    rfl
   have G:Ae (n:Int) 10=true:=Ab (by omega)
   rcases hq with rfl | rfl | rfl | rfl | rfl | rfl | rfl | rfl
   ·
    obtain⟨y,T,y0,y1,f,L⟩:=nx (R:=R) (N:=N) (t:=false) (o:=d) S ((c.buses.l.length:Nat):Int) (by omega) (by omega) X I
    obtain⟨z,k3,z0,z1,M,hz⟩:=nx (R:=R) (N:=N) (t:=false) (o:=d) S c.hours (by omega) (by omega) T f
    obtain⟨w,k4,w0,w1,hk4,hw⟩:=nx (R:=R) (N:=N) (t:=false) (o:=d) S 20 (by omega) (by omega) k3 M
    obtain⟨x,s,A,D⟩:=done ⟨1,y,z,w⟩ k4 (by show S8 c 1 y z w=true;unfold S8;rw[if_pos rfl,DS (by omega),DS (by omega),DS (by omega)];rfl) hk4
    refine⟨x,s,A,fun K=>?_⟩
    rw[open_];unfold Dq
    rw[U,G,ct,Int.toNat_natCast,F,show((1:Int)==1)=true from rfl,ct,Gs,L,Gr,hz,hw]
    exact D K
   ·
    obtain⟨y,T,y0,y1,f,L⟩:=nx (R:=R) (N:=N) (t:=false) (o:=d) S ((c.units.l.length:Nat):Int) (by omega) (by omega) X I
    obtain⟨z,k3,z0,z1,M,hz⟩:=nx (R:=R) (N:=N) (t:=false) (o:=d) S c.hours (by omega) (by omega) T f
    obtain⟨x,s,A,D⟩:=done ⟨2,y,1+z,0⟩ k3 (by show S8 c 2 y (1+z) 0=true;unfold S8;rw[if_neg (by decide),if_pos rfl,DS (by omega),DS (by omega),DS (by omega)];rfl) M
    refine⟨x,s,A,fun K=>?_⟩
    rw[open_];unfold Dq
    rw[U,G,ct,Int.toNat_natCast,F,show((2:Int)==1)=false from rfl,cf,show((2:Int)==2)=true from rfl,ct,C2,L,Gr,hz,i64 (a:=1+z) (by omega)]
    exact D K
   ·
    by_cases h0:c.lines.l.length=0
    ·obtain⟨x,s,A,D⟩:=done ⟨5,0,0,0⟩ X rfl I
     refine⟨x,s,A,fun K=>?_⟩
     rw[open_];unfold Dq
     rw[U,G,ct,Int.toNat_natCast,F,show((3:Int)==1)=false from rfl,cf,show((3:Int)==2)=false from rfl,cf,show((3:Int)==4)=false from rfl,cf,show((3:Int)==3)=true from rfl,ct,Ef,show(((c.lines.l.length:Nat):Int)==0)=true by rw[h0];rfl,ct]
     exact D K
    ·obtain⟨y,T,y0,y1,f,L⟩:=nx (R:=R) (N:=N) (t:=false) (o:=d) S ((c.lines.l.length:Nat):Int) (by omega) (by omega) X I
     obtain⟨z,k3,z0,z1,M,hz⟩:=nx (R:=R) (N:=N) (t:=false) (o:=d) S c.hours (by omega) (by omega) T f
     obtain⟨x,s,A,D⟩:=done ⟨3,y,1+z,0⟩ k3 (by show S8 c 3 y (1+z) 0=true;unfold S8;rw[if_neg (by decide),if_neg (by decide),if_pos rfl,DS (by omega),DS (by omega),DS (by omega)];rfl) M
     refine⟨x,s,A,fun K=>?_⟩
     rw[open_];unfold Dq
     rw[U,G,ct,Int.toNat_natCast,F,show((3:Int)==1)=false from rfl,cf,show((3:Int)==2)=false from rfl,cf,show((3:Int)==4)=false from rfl,cf,show((3:Int)==3)=true from rfl,ct,Ef,show(((c.lines.l.length:Nat):Int)==0)=false by rw[beq_eq_false_iff_ne];omega,cf,Ef,L,Gr,hz,i64 (a:=1+z) (by omega)]
     exact D K
   ·
    obtain⟨y,T,y0,y1,f,L⟩:=nx (R:=R) (N:=N) (t:=false) (o:=d) S ((c.units.l.length:Nat):Int) (by omega) (by omega) X I
    obtain⟨a,rfl⟩:∃ a:Nat,y=a:=⟨y.toNat,by omega⟩
    have Y:a<c.units.l.length:=by omega
    have hsg:=(hs.seg _ (List.getElem_mem Y)).2
    have en:Af7 c (a:Int)=c.units.l[a].segs.l.length:=by unfold Af7;rw[Int.toNat_natCast,List.getElem?_eq_getElem Y]
    by_cases h0:c.units.l[a].segs.l.length=0
    ·obtain⟨x,s,A,D⟩:=done ⟨5,0,0,0⟩ T rfl f
     refine⟨x,s,A,fun K=>?_⟩
     rw[open_];unfold Dq
     rw[U,G,ct,Int.toNat_natCast,F,show((4:Int)==1)=false from rfl,cf,show((4:Int)==2)=false from rfl,cf,show((4:Int)==4)=true from rfl,ct,C2,L,C2,Ab Y,ct,Int.toNat_natCast,At Cg _ _ Y,zS,show(((c.units.l[a].segs.l.length:Nat):Int)==0)=true by rw[h0];rfl,ct]
     exact D K
    ·obtain⟨z,k3,z0,z1,M,hz⟩:=nx (R:=R) (N:=N) (t:=false) (o:=d) S ((c.units.l[a].segs.l.length:Nat):Int) (by omega) (by omega) T f
     obtain⟨w,k4,w0,w1,hk4,hw⟩:=nx (R:=R) (N:=N) (t:=false) (o:=d) S 60 (by omega) (by omega) k3 M
     obtain⟨x,s,A,D⟩:=done ⟨4,(a:Int),z,w - 10⟩ k4 (by show S8 c 4 (a:Int) z (w - 10)=true;unfold S8;rw[if_neg (by decide),if_neg (by decide),if_neg (by decide),if_pos rfl,en,DS (by omega),DS (by omega),DS (by omega)];rfl) hk4
     refine⟨x,s,A,fun K=>?_⟩
     rw[open_];unfold Dq
     rw[U,G,ct,Int.toNat_natCast,F,show((4:Int)==1)=false from rfl,cf,show((4:Int)==2)=false from rfl,cf,show((4:Int)==4)=true from rfl,ct,C2,L,C2,Ab Y,ct,Int.toNat_natCast,At Cg _ _ Y,zS,show(((c.units.l[a].segs.l.length:Nat):Int)==0)=false by rw[beq_eq_false_iff_ne];omega,cf,C2,Ab Y,ct,At Cg _ _ Y,zS,hz,hw,i64 (a:=w - 10) (by omega)]
     exact D K
   ·
    obtain⟨x,s,A,D⟩:=done ⟨5,0,0,0⟩ X rfl I
    refine⟨x,s,A,fun K=>?_⟩
    rw[open_];unfold Dq
    rw[U,G,ct,Int.toNat_natCast,F]
    exact D K
   ·
    obtain⟨y,T,y0,y1,f,L⟩:=nx (R:=R) (N:=N) (t:=false) (o:=d) S 200 (by omega) (by omega) X I
    obtain⟨x,s,A,D⟩:=done ⟨6,0,0,y⟩ T (by show S8 c 6 0 0 y=true;unfold S8;rw[if_neg (by decide),if_neg (by decide),if_neg (by decide),if_neg (by decide),if_neg (by decide),if_pos rfl,DS (by omega),DS (by omega)];rfl) f
    refine⟨x,s,A,fun K=>?_⟩
    rw[open_];unfold Dq
    rw[U,G,ct,Int.toNat_natCast,F,show((6:Int)==1)=false from rfl,cf,show((6:Int)==2)=false from rfl,cf,show((6:Int)==4)=false from rfl,cf,show((6:Int)==3)=false from rfl,cf,show((6:Int)==8)=false from rfl,cf,show((6:Int)==6)=true from rfl,ct,L]
    exact D K
   ·
    obtain⟨x,s,A,D⟩:=done ⟨7,0,0,0⟩ X rfl I
    refine⟨x,s,A,fun K=>?_⟩
    rw[open_];unfold Dq
    rw[U,G,ct,Int.toNat_natCast,F]
    exact D K
   ·
    obtain⟨y,T,y0,y1,f,L⟩:=nx (R:=R) (N:=N) (t:=false) (o:=d) S c.hours (by omega) (by omega) X I
    obtain⟨x,s,A,D⟩:=done ⟨8,0,y,0⟩ T (by show S8 c 8 0 y 0=true;unfold S8;rw[if_neg (by decide),if_neg (by decide),if_neg (by decide),if_neg (by decide),if_neg (by decide),if_neg (by decide),if_neg (by decide),if_pos rfl,DS (by omega),DS (by omega)];rfl) f
    refine⟨x,s,A,fun K=>?_⟩
    rw[open_];unfold Dq
    rw[U,G,ct,Int.toNat_natCast,F,show((8:Int)==1)=false from rfl,cf,show((8:Int)==2)=false from rfl,cf,show((8:Int)==4)=false from rfl,cf,show((8:Int)==3)=false from rfl,cf,show((8:Int)==8)=true from rfl,ct,Gr,L]
    exact D K
  ·refine⟨acc,V,by omega,fun K=>?_⟩
   rw[D6];unfold Ta
   rw[Rn];unfold S7
   rw[decide_eq_false (show ¬ (k:Int)<((raw.length:Nat):Int) by omega)]
   rfl
theorem Ax3 {N:Nat} {c:CaseD} {raw:List Int} {i s d:Bool} (hN:31≤N) (m:Made c) (hs:Small c N) (b:raw.length≤9223372036854775807):∃ x:List EvD,(∀ e ∈ x,rx c e=true)∧x.length≤30∧∀ K:Nat→LA→O R,GA N c.av i (Aq raw) raw.length s d 30 K=K x.length (x.flatMap EvD.av):=by
 obtain⟨x,f,j,k⟩:=yD (R:=R) (N:=N) (c:=c) (raw:=raw) (i:=i) (d:=d) m hs b 30 N 0 [] rfl (by omega) (by omega) (by simp)
 refine⟨x,f,j,fun K=>?_⟩
 rw[l7];unfold VN
 rw[mU];unfold zD
 exact k K
end
end Gx.Cf

namespace Gx
open Go Go.Proofs
open IntKind (wrap)
set_option maxRecDepth 100000
noncomputable section
variable {R:Type} (N:Nat)
def Hv (r0:Bool→O R) (ax:Nat) (ay aw:LA):O R :=
 (cond (Nat.ble 8 (aw.length)) (Yv N (aw.take 8) false (ay.take (ax*4)) ax false true (fun az ba=>(cond (Nat.ble 8 (aw.length)) (Uf N (aw.take 8) false (ay.take (ax*4)) ax false true (fun bb bc=>(Fx N (fun bd=>(cond (bd==true) (cond ((cond true (az==bb) false)==true) (r0 (cond true (ba==bc) false)) (r0 false)) (r0 false)))))) none))) none)
def Nt (r0:Bool→O R) (ab:LA) (l:Nat) (ad ac:Bool) (m:Int) (n:LA) (o:Nat) (ae b:Bool) (p:LA) (q:Nat) (af c:Bool) (r:LA) (s:Nat) (ag d:Bool) (t:LA) (u:Nat) (ah e:Bool) (v:LA) (w:Nat) (ai f:Bool) (x:LA) (y:Nat) (aj g:Bool) (z:LA) (aa:Nat) (ak i:Bool):O R :=
 (Yv N [(.int .i64 m),(.imm n o 1 false b),(.imm p q 3 false c),(.imm r s 12 false d),(.imm t u 22 false e),(.imm v w 9 false f),(.imm x y 5 false g),(.imm z aa 4 false i)] (b||(c||(d||(e||(f||(g||(i||false))))))) ab l false ac (fun be bf=>(Uf N [(.int .i64 m),(.imm n o 1 false b),(.imm p q 3 false c),(.imm r s 12 false d),(.imm t u 22 false e),(.imm v w 9 false f),(.imm x y 5 false g),(.imm z aa 4 false i)] (b||(c||(d||(e||(f||(g||(i||false))))))) ab l false ac (fun bg bh=>(Fx N (fun bi=>(cond (bi==true) (cond ((cond true (be==bg) false)==true) (r0 (cond true (bf==bh) false)) (r0 false)) (r0 false))))))))
def Mb (r0:Bool→O R) (al:LA) (am:Nat) (au an:Bool) (ao:LA) (ap:Nat) (av aq:Bool) (ab:LA) (l:Nat) (ad ac ar:Bool) (m:Int) (n:LA) (o:Nat) (ae b:Bool) (p:LA) (q:Nat) (af c:Bool) (r:LA) (s:Nat) (ag d:Bool) (t:LA) (u:Nat) (ah e:Bool) (v:LA) (w:Nat) (ai f:Bool) (x:LA) (y:Nat) (aj g:Bool) (z:LA) (aa:Nat) (ak i:Bool) (q1:Nat→LA→LA→O R) (q2:O R):O R :=
 (cond ar (UO N al am false an (fun aw=>(cond ((Nat.beq 0 0)&&((Nat.beq (aw.length) 8)&&(Nat.beq 8 8))) (cond (Nat.ble 8 (aw.length)) (GA N (aw.take 8) false ao ap false aq 30 (fun ax ay=>(q1 ax ay aw))) none) none))) q2)
def Hw (r0:Bool→O R) (al:LA) (am:Nat) (au an:Bool) (ao:LA) (ap:Nat) (av aq:Bool) (ab:LA) (l:Nat) (ad ac ar:Bool) (m:Int) (n:LA) (o:Nat) (ae b:Bool) (p:LA) (q:Nat) (af c:Bool) (r:LA) (s:Nat) (ag d:Bool) (t:LA) (u:Nat) (ah e:Bool) (v:LA) (w:Nat) (ai f:Bool) (x:LA) (y:Nat) (aj g:Bool) (z:LA) (aa:Nat) (ak i:Bool):O R:=(Mb N r0 al am au an ao ap av aq ab l ad ac ar m n o ae b p q af c r s ag d t u ah e v w ai f x y aj g z aa ak i (fun ax ay aw=>(Hv N r0 ax ay aw)) (Nt N r0 ab l ad ac m n o ae b p q af c r s ag d t u ah e v w ai f x y aj g z aa ak i))
def Kr (r0:Bool→O R) (q0:O R) (m:Int) (n:LA) (o:Nat) (ae b:Bool) (p:LA) (q:Nat) (af c:Bool) (r:LA) (s:Nat) (ag d:Bool) (t:LA) (u:Nat) (ah e:Bool) (v:LA) (w:Nat) (ai f:Bool) (x:LA) (y:Nat) (aj g:Bool) (z:LA) (aa:Nat) (ak i:Bool) (al:LA) (am:Nat) (au an:Bool) (ao:LA) (ap:Nat) (av aq:Bool) (ab:LA) (l:Nat) (ad ac ar:Bool):O R :=
 (MK N [(.int .i64 m),(.imm n o 1 false b),(.imm p q 3 false c),(.imm r s 12 false d),(.imm t u 22 false e),(.imm v w 9 false f),(.imm x y 5 false g),(.imm z aa 4 false i)] (b||(c||(d||(e||(f||(g||(i||false))))))) (fun bj=>(cond ((!bj)==false) (fi N al am false an ao ap false aq (fun bk=>(cond ((cond false true (!bk))==false) (cond (cond false true (decide (((l:Nat):Int)>300))) (r0 true) q0) (r0 true)))) (r0 true))))
def Hm:=(Ag (fun (N:Nat) (m:Int) (n:LA) (o:Nat) (ae b:Bool) (p:LA) (q:Nat) (af c:Bool) (r:LA) (s:Nat) (ag d:Bool) (t:LA) (u:Nat) (ah e:Bool) (v:LA) (w:Nat) (ai f:Bool) (x:LA) (y:Nat) (aj g:Bool) (z:LA) (aa:Nat) (ak i:Bool) (al:LA) (am:Nat) (au an:Bool) (ao:LA) (ap:Nat) (av aq:Bool) (ab:LA) (l:Nat) (ad ac ar:Bool) (r0:Bool→O R)=>(Kr N r0 (Hw N r0 al am au an ao ap av aq ab l ad ac ar m n o ae b p q af c r s ag d t u ah e v w ai f x y aj g z aa ak i) m n o ae b p q af c r s ag d t u ah e v w ai f x y aj g z aa ak i al am au an ao ap av aq ab l ad ac ar))).1
theorem U3 (m n o ae b p q af c r s ag d t u ah e v w ai f x y aj g z aa ak i al am au an ao ap av aq ab l ad ac ar r0):(@Hm R N m n o ae b p q af c r s ag d t u ah e v w ai f x y aj g z aa ak i al am au an ao ap av aq ab l ad ac ar r0)=(Kr N r0 (Hw N r0 al am au an ao ap av aq ab l ad ac ar m n o ae b p q af c r s ag d t u ah e v w ai f x y aj g z aa ak i) m n o ae b p q af c r s ag d t u ah e v w ai f x y aj g z aa ak i al am au an ao ap av aq ab l ad ac ar):=by rw[Hm,(Ag _).2]
def Wv:Hints:={ H:=(hS hL (hJ [1,2,3,4,5] hL (hJ [3,5] hL hL))) }
def Xi:F2:=[(46,Agg N),(49,Axq N),(42,Aeb N),(50,Aro N),(51,Art N),(52,Ajw N),(45,f9 N)]
def Nu (F:KF R):=Ju Tryz.f11 Wv (Xi N) [] N F
def C8 (F:KF R):Bool→O R:=(fun bl=>F (.bool bl) [])
def VQ (ax:Nat) (ay aw:LA):St:=⟨[(3,(.own 300000 0 ax)),(5,(op 1))],(hq [(bQ 4 ay),(bQ 0 aw)])⟩
def VR (F:KF R):=Nu N F [1,1,1] []
def VS (ab:LA) (l:Nat) (ad ac:Bool) (m:Int) (n:LA) (o:Nat) (ae b:Bool) (p:LA) (q:Nat) (af c:Bool) (r:LA) (s:Nat) (ag d:Bool) (t:LA) (u:Nat) (ah e:Bool) (v:LA) (w:Nat) (ai f:Bool) (x:LA) (y:Nat) (aj g:Bool) (z:LA) (aa:Nat) (ak i:Bool):St:=⟨[(3,(.imm ab l 4 ad ac)),(5,(op 0))],(hq [(bN 0 [(iv m),(.imm n o 1 ae b),(.imm p q 3 af c),(.imm r s 12 ag d),(.imm t u 22 ah e),(.imm v w 9 ai f),(.imm x y 5 aj g),(.imm z aa 4 ak i)])])⟩
def VT (F:KF R):=Nu N F [1,1,1] []
def VU (al:LA) (am:Nat) (au an:Bool) (ao:LA) (ap:Nat) (av aq:Bool) (ab:LA) (l:Nat) (ad ac ar:Bool) (m:Int) (n:LA) (o:Nat) (ae b:Bool) (p:LA) (q:Nat) (af c:Bool) (r:LA) (s:Nat) (ag d:Bool) (t:LA) (u:Nat) (ah e:Bool) (v:LA) (w:Nat) (ai f:Bool) (x:LA) (y:Nat) (aj g:Bool) (z:LA) (aa:Nat) (ak i:Bool):St:=⟨[(1,(.imm al am 1 au an)),(2,(.imm ao ap 1 av aq)),(3,(.imm ab l 4 ad ac)),(4,(.bool ar)),(5,(op 0))],(hq [(bN 0 [(iv m),(.imm n o 1 ae b),(.imm p q 3 af c),(.imm r s 12 ag d),(.imm t u 22 ah e),(.imm v w 9 ai f),(.imm x y 5 aj g),(.imm z aa 4 ak i)])])⟩
def VV (F:KF R):=Nu N F [1,1] []
theorem IV (F:KF R) (ax:Nat) (ay aw:LA):B5 (VR N F) (VQ ax ay aw)=(Hv N (C8 F) ax ay aw):=by
 kernel_rfl
theorem IW (F:KF R) (ab:LA) (l:Nat) (ad ac:Bool) (m:Int) (n:LA) (o:Nat) (ae b:Bool) (p:LA) (q:Nat) (af c:Bool) (r:LA) (s:Nat) (ag d:Bool) (t:LA) (u:Nat) (ah e:Bool) (v:LA) (w:Nat) (ai f:Bool) (x:LA) (y:Nat) (aj g:Bool) (z:LA) (aa:Nat) (ak i:Bool):B5 (VT N F) (VS ab l ad ac m n o ae b p q af c r s ag d t u ah e v w ai f x y aj g z aa ak i)=(Nt N (C8 F) ab l ad ac m n o ae b p q af c r s ag d t u ah e v w ai f x y aj g z aa ak i):=by
 kernel_rfl
theorem IX (F:KF R) (al:LA) (am:Nat) (au an:Bool) (ao:LA) (ap:Nat) (av aq:Bool) (ab:LA) (l:Nat) (ad ac ar:Bool) (m:Int) (n:LA) (o:Nat) (ae b:Bool) (p:LA) (q:Nat) (af c:Bool) (r:LA) (s:Nat) (ag d:Bool) (t:LA) (u:Nat) (ah e:Bool) (v:LA) (w:Nat) (ai f:Bool) (x:LA) (y:Nat) (aj g:Bool) (z:LA) (aa:Nat) (ak i:Bool):B5 (VV N F) (VU al am au an ao ap av aq ab l ad ac ar m n o ae b p q af c r s ag d t u ah e v w ai f x y aj g z aa ak i)=(Hw N (C8 F) al am au an ao ap av aq ab l ad ac ar m n o ae b p q af c r s ag d t u ah e v w ai f x y aj g z aa ak i):=by
 exact Eq.trans (by kernel_rfl) (OQ (Mb N (C8 F) al am au an ao ap av aq ab l ad ac ar m n o ae b p q af c r s ag d t u ah e v w ai f x y aj g z aa ak i · ·) (funext fun ax=>funext fun ay=>funext fun aw=>(A1 ..).trans (IV N F ax ay aw)) ((A1 ..).trans (IW N F ab l ad ac m n o ae b p q af c r s ag d t u ah e v w ai f x y aj g z aa ak i)):_)
theorem Ww (m:Int) (n:LA) (o:Nat) (ae b:Bool) (p:LA) (q:Nat) (af c:Bool) (r:LA) (s:Nat) (ag d:Bool) (t:LA) (u:Nat) (ah e:Bool) (v:LA) (w:Nat) (ai f:Bool) (x:LA) (y:Nat) (aj g:Bool) (z:LA) (aa:Nat) (ak i:Bool) (al:LA) (am:Nat) (au an:Bool) (ao:LA) (ap:Nat) (av aq:Bool) (ab:LA) (l:Nat) (ad ac ar:Bool) (F:KF R):Cw (Xi N) Wv N 11 [(.agg [(iv m),(.imm n o 1 ae b),(.imm p q 3 af c),(.imm r s 12 ag d),(.imm t u 22 ah e),(.imm v w 9 ai f),(.imm x y 5 aj g),(.imm z aa 4 ak i)]),(.imm al am 1 au an),(.imm ao ap 1 av aq),(.imm ab l 4 ad ac),(.bool ar)] [] F=(Hm N m n o ae b p q af c r s ag d t u ah e v w ai f x y aj g z aa ak i al am au an ao ap av aq ab l ad ac ar (C8 F)):=by
 rw[U3]
 exact Eq.trans (by kernel_rfl) (Bt (Kr N (C8 F) · m n o ae b p q af c r s ag d t u ah e v w ai f x y aj g z aa ak i al am au an ao ap av aq ab l ad ac ar) ((A1 ..).trans (IX N F al am au an ao ap av aq ab l ad ac ar m n o ae b p q af c r s ag d t u ah e v w ai f x y aj g z aa ak i)):_)
def U4 (a:LA) (h:Aj) (k:KF R):O R :=
 match a,h with
 | [(.agg [(.int .i64 m),(.imm n o 1 ae b),(.imm p q 3 af c),(.imm r s 12 ag d),(.imm t u 22 ah e),(.imm v w 9 ai f),(.imm x y 5 aj g),(.imm z aa 4 ak i)]),(.imm al am 1 au an),(.imm ao ap 1 av aq),(.imm ab l 4 ad ac),(.bool ar)],[]=>(Hm N m n o ae b p q af c r s ag d t u ah e v w ai f x y aj g z aa ak i al am au an ao ap av aq ab l ad ac ar (C8 k))
 | _,_=>none
theorem Wx:An N 11 @U4:=by
 intro R Q a h k j;unfold U4;split;exact A2 (Ww ..) (Ww ..) ⟨Agh N,Axr N,Aec N,Arp N,Aru N,Ajx N,f_ N,trivial⟩;exact A4
def VW:=A3 (Wx N)
def VX:=Cz (Wx N)
end
end Gx

namespace Gx.Cf
open Go Go.Proofs
section
variable {R:Type}
theorem A8h (l:List EvD):List.take (l.length*4) (l.flatMap EvD.av)=l.flatMap EvD.av:=List.take_of_length_le (by rw[Arj];exact Nat.le_refl _)
end
end Gx.Cf

namespace Gx.Cf
open Go Go.Proofs
section
variable {R:Type}
theorem Ax4:∀ n:Nat,n<10→IY [(.int .u8 (IntKind.wrap .u8 (IntKind.wrap .i64 (48+((n:Nat):Int)))))]=some [UInt8.ofNat (48+n)]:=by
 intro n hn
 rcases n with _ | _ | _ | _ | _ | _ | _ | _ | _ | _ | n
 all_goals first | omega | rfl
theorem A8i (v:Nat):Int.tmod (v:Int) 10=((v%10:Nat):Int):=by rw[Int.tmod_eq_emod_of_nonneg (by omega)];omega
theorem A8j (v:Nat):Int.tdiv (v:Int) 10=((v/10:Nat):Int):=by rw[Int.tdiv_eq_ediv_of_nonneg (by omega)];omega
theorem Amz {N:Nat} {K:List UInt8→O R}:∀ (n v fuel:Nat) (f:List UInt8),v<10 ^ n→n<fuel→v≤4611686018427387904→f.length+n≤1000→Ih N K fuel (v:Int) f=K (if v=0 then f else Aqf v++f)
 | 0,v,fuel+1,f,h,_,_,_=>by
  obtain rfl:v=0:=by simpa using h
  rw[Ih];unfold Wt
  rfl
 | n+1,v,fuel+1,f,h,d,e,i=>by
  rw[Ih];unfold Wt
  by_cases h0:v=0
  ·subst h0;rfl
  ·have c:v/10<10 ^ n:=by rw[Nat.div_lt_iff_lt_mul (by omega),←Nat.pow_succ];exact h
   rw[decide_eq_true (show((v:Nat):Int)>0 by omega),ct,A8i,Ax4 _ (Nat.mod_lt _ (by omega)),Option.bind_some,A8j,i64 (by omega),List.length_singleton,show Nat.ble (1+f.length) 140737488355328=true by rw[Bs];exact decide_eq_true (by omega),ct,Amz n (v/10) fuel _ c (by omega) (by omega) (by rw[List.length_append,List.length_singleton];omega),if_neg h0]
   by_cases b:v<10
   ·rw[if_pos (by omega),Ym b,Nat.mod_eq_of_lt b]
   ·rw[if_neg (by omega),hG (u:=v) (by omega),List.append_assoc]
theorem Am0 {N v:Nat} {K:List UInt8→O R} (hN:30≤N) (c:v≤4611686018427387904):Ue N (v:Int) K=K (Aqf v):=by
 rw[ft];unfold MM
 rw[A8i,Ax4 _ (Nat.mod_lt _ (by omega)),Option.bind_some,A8j,i64 (by omega)]
 show Ih N K N ((v/10:Nat):Int) [UInt8.ofNat (48+v%10)]=_
 rw[Amz 20 (v/10) N _ (Nat.lt_of_le_of_lt (show v/10≤4611686018427387904 by omega) (by decide)) (by omega) (by omega) (by rw[List.length_singleton];omega)]
 by_cases b:v<10
 ·rw[if_pos (by omega),Ym b,Nat.mod_eq_of_lt b]
 ·rw[if_neg (by omega),hG (u:=v) (by omega)]
theorem yw {N:Nat} {z:Int} {K:List UInt8→O R} (hN:30≤N) (h:-4611686018427387904≤z∧z≤4611686018427387904):Gd N z K=K (Af3 z):=by
 rw[fw];unfold fv Af3 A9a
 by_cases b:z<0
 ·rw[decide_eq_true b,ct,if_pos b,i64 (by omega),show(0:Int) - z=((z.natAbs:Nat):Int) by omega,Am0 hN (by omega),show Nat.ble (1+(Aqf z.natAbs).length) 140737488355328=true by
   have:=Amx (z:=z) (by omega)
   rw[Bs];exact decide_eq_true (by omega),ct]
  rfl
 ·obtain⟨n,rfl⟩:∃ n:Nat,z=n:=⟨z.toNat,by omega⟩
  rw[decide_eq_false b,cf,if_neg b,Am0 hN (by omega)]
  rfl
theorem NS {n:Nat} {X:O R} (h:n≤1000):cond (Nat.ble n 140737488355328) X none=X:=by rw[show Nat.ble n 140737488355328=true by rw[Bs];exact decide_eq_true (by omega),ct]
theorem MO {c:CaseD} {f v:Int} (h:3<f):Bq c f v=32::Af3 v:=by
 unfold Bq fq K6
 rw[if_neg (by omega),if_neg (by omega),if_neg (by omega),if_neg (by omega),List.flatMap_cons,List.flatMap_nil,List.append_nil]
theorem iF {c:CaseD} {v:Int}:Bq c 0 v=[]:=rfl
theorem Arx {c:CaseD} {f:Int} {l:List (List UInt8)} {n:Nat} (h:f≠0) (b:K6 c f=some l) (hn:n<l.length):Bq c f (n:Int)=32::l[n]:=by
 unfold Bq fq
 rw[if_neg h,b]
 dsimp only
 rw[Int.toNat_natCast,List.getD_eq_getElem?_getD,List.getElem?_eq_getElem hn,Option.getD_some,List.flatMap_cons,List.flatMap_nil,List.append_nil]
theorem A16 {N:Nat} {c:CaseD} {g i:Bool} {e:EvD} {K:List UInt8→O R} (hN:30≤N) (hs:Small c N) (y:Cc c=none) (h:rx c e=true):fy N c.av g e.av i K=K (U2 c e):=by
 obtain⟨k,a,b,v⟩:=e
 have hH:=Kq y
 have d:∀ {lo hi x:Int},BV lo hi x=true→lo≤x∧x≤hi:=fun {lo hi x} h=>by unfold BV at h;simpa using h
 have sg:∀ a:Int,(Af7 c a:Int)≤4611686018427387904:=fun a=>by
  unfold Af7
  cases hq:c.units.l[a.toNat]? with
  | none=>simp
  | some u=>have:=(hs.seg u (List.mem_of_getElem? hq)).2;simp;omega
 have X:∀ F:Int→O R,Ap .i64 (EvD.av ⟨k,a,b,v⟩) F=F k:=fun F=>rfl
 have A:∀ F:Int→O R,Ap .i64 (List.drop 1 (EvD.av ⟨k,a,b,v⟩)) F=F a:=fun F=>rfl
 have t:∀ F:Int→O R,Ap .i64 (List.drop 2 (EvD.av ⟨k,a,b,v⟩)) F=F b:=fun F=>rfl
 have C:∀ F:Int→O R,Ap .i64 (List.drop 3 (EvD.av ⟨k,a,b,v⟩)) F=F v:=fun F=>rfl
 have j:∀ z:Int,-4611686018427387904≤z∧z≤4611686018427387904→∀ F:List UInt8→O R,Gd N z F=F (Af3 z):=fun z U F=>yw hN U
 have m:∀ z:Int,-4611686018427387904≤z∧z≤4611686018427387904→(Af3 z).length≤21:=fun z U=>nA (by omega)
 have bus:∀ n:Nat,(hn:n<c.buses.l.length)→(c.buses.l[n].name).length≤16∧Bq c 1 (n:Int)=32::c.buses.l[n].name∧∀ F:List UInt8→O R,Ts (BusD.av c.buses.l[n]++(c.buses.l.drop (n+1)).flatMap BusD.av) F=F c.buses.l[n].name:=fun n hn=>by
  have e1:K6 c 1=some (c.buses.l.map (·.name)):=rfl
  have q:n<(c.buses.l.map (·.name)).length:=by rw[List.length_map];exact hn
  have:=Arx (c:=c) (f:=1) (by decide) e1 q
  rw[List.getElem_map] at this
  exact⟨gC ((fm y e1).ok _ (List.mem_map_of_mem (List.getElem_mem hn))),this,fun F=>rfl⟩
 have uni:∀ n:Nat,(hn:n<c.units.l.length)→(c.units.l[n].name).length≤16∧Bq c 2 (n:Int)=32::c.units.l[n].name∧∀ F:List UInt8→O R,Ts (UnitD.av c.units.l[n]++(c.units.l.drop (n+1)).flatMap UnitD.av) F=F c.units.l[n].name:=fun n hn=>by
  have e1:K6 c 2=some (c.units.l.map (·.name)):=rfl
  have q:n<(c.units.l.map (·.name)).length:=by rw[List.length_map];exact hn
  have:=Arx (c:=c) (f:=2) (by decide) e1 q
  rw[List.getElem_map] at this
  exact⟨gC ((fm y e1).ok _ (List.mem_map_of_mem (List.getElem_mem hn))),this,fun F=>rfl⟩
 have lin:∀ n:Nat,(hn:n<c.lines.l.length)→(c.lines.l[n].name).length≤16∧Bq c 3 (n:Int)=32::c.lines.l[n].name∧∀ F:List UInt8→O R,Ts (LineD.av c.lines.l[n]++(c.lines.l.drop (n+1)).flatMap LineD.av) F=F c.lines.l[n].name:=fun n hn=>by
  have e1:K6 c 3=some (c.lines.l.map (·.name)):=rfl
  have q:n<(c.lines.l.map (·.name)).length:=by rw[List.length_map];exact hn
  have:=Arx (c:=c) (f:=3) (by decide) e1 q
  rw[List.getElem_map] at this
  exact⟨gC ((fm y e1).ok _ (List.mem_map_of_mem (List.getElem_mem hn))),this,fun F=>rfl⟩
 unfold rx S8 at h
 rw[rq];unfold tk
 rw[X]
 simp only at h
 by_cases D:k=1
 ·subst D
  rw[if_pos rfl] at h;simp only[Bool.and_eq_true] at h;obtain⟨e1,s,e3⟩:=h
  have:=d e1;have i2:=d s;have i3:=d e3
  obtain⟨n,rfl⟩:∃ n:Nat,a=n:=⟨a.toNat,by omega⟩
  have hn:n<c.buses.l.length:=by omega
  obtain⟨nl,nf,nr⟩:=bus n hn
  have l2:=m b (by omega);have l3:=m v (by omega)
  have e:U2 c ⟨1,(n:Int),b,v⟩=[100,101,109,97,110,100]++(Bq c 1 (n:Int)++(Bq c 4 b++Bq c 7 v)):=Ma
  rw[show((1:Int)==1)=true from rfl,ct,Gs,A,Ab hn,ct,Int.toNat_natCast,At Kb _ _ hn,nr,NS (by omega),NS (by simp only[List.length_append,List.length_cons,List.length_nil];omega),t,j b (by omega),NS (by simp only[List.length_append,List.length_cons,List.length_nil];omega),NS (by simp only[List.length_append,List.length_cons,List.length_nil];omega),C,j v (by omega),NS (by simp only[List.length_append,List.length_cons,List.length_nil];omega),e,nf,MO (by decide),MO (by decide)]
  simp
 rw[show(k==1)=false by simpa using D,cf]
 rw[if_neg D] at h
 by_cases G:k=2
 ·subst G
  rw[if_pos rfl] at h;simp only[Bool.and_eq_true] at h;obtain⟨e1,s,e3⟩:=h
  have:=d e1;have i2:=d s;have i3:=d e3
  obtain⟨n,rfl⟩:∃ n:Nat,a=n:=⟨a.toNat,by omega⟩
  have hn:n<c.units.l.length:=by omega
  obtain⟨nl,nf,nr⟩:=uni n hn
  have l2:=m b (by omega)
  have e:U2 c ⟨2,(n:Int),b,v⟩=[116,114,105,112]++(Bq c 2 (n:Int)++(Bq c 5 b++Bq c 0 v)):=Ma
  rw[show((2:Int)==2)=true from rfl,ct,C2,A,Ab hn,ct,Int.toNat_natCast,At Cg _ _ hn,nr,NS (by omega),NS (by simp only[List.length_append,List.length_cons,List.length_nil];omega),t,j b (by omega),NS (by simp only[List.length_append,List.length_cons,List.length_nil];omega),e,nf,MO (by decide),iF]
  simp
 rw[show(k==2)=false by simpa using G,cf]
 rw[if_neg G] at h
 by_cases I:k=3
 ·subst I
  rw[if_pos rfl] at h;simp only[Bool.and_eq_true] at h;obtain⟨e1,s,e3⟩:=h
  have:=d e1;have i2:=d s;have i3:=d e3
  obtain⟨n,rfl⟩:∃ n:Nat,a=n:=⟨a.toNat,by omega⟩
  have hn:n<c.lines.l.length:=by omega
  obtain⟨nl,nf,nr⟩:=lin n hn
  have l2:=m b (by omega)
  have e:U2 c ⟨3,(n:Int),b,v⟩=[108,105,110,101]++(Bq c 3 (n:Int)++(Bq c 5 b++Bq c 0 v)):=Ma
  rw[show((3:Int)==3)=true from rfl,ct,Ef,A,Ab hn,ct,Int.toNat_natCast,At Ce _ _ hn,nr,NS (by omega),NS (by simp only[List.length_append,List.length_cons,List.length_nil];omega),t,j b (by omega),NS (by simp only[List.length_append,List.length_cons,List.length_nil];omega),e,nf,MO (by decide),iF]
  simp
 rw[show(k==3)=false by simpa using I,cf]
 rw[if_neg I] at h
 by_cases L:k=4
 ·subst L
  rw[if_pos rfl] at h;simp only[Bool.and_eq_true] at h;obtain⟨e1,s,e3⟩:=h
  have:=d e1;have i2:=d s;have i3:=d e3;have i4:=sg a
  obtain⟨n,rfl⟩:∃ n:Nat,a=n:=⟨a.toNat,by omega⟩
  have hn:n<c.units.l.length:=by omega
  obtain⟨nl,nf,nr⟩:=uni n hn
  have l2:=m b (by omega);have l3:=m v (by omega)
  have e:U2 c ⟨4,(n:Int),b,v⟩=[111,102,102,101,114]++(Bq c 2 (n:Int)++(Bq c 6 b++Bq c 8 v)):=Ma
  rw[show((4:Int)==4)=true from rfl,ct,C2,A,Ab hn,ct,Int.toNat_natCast,At Cg _ _ hn,nr,NS (by omega),NS (by simp only[List.length_append,List.length_cons,List.length_nil];omega),t,j b (by omega),NS (by simp only[List.length_append,List.length_cons,List.length_nil];omega),NS (by simp only[List.length_append,List.length_cons,List.length_nil];omega),C,j v (by omega),NS (by simp only[List.length_append,List.length_cons,List.length_nil];omega),e,nf,MO (by decide),MO (by decide)]
  simp
 rw[show(k==4)=false by simpa using L,cf]
 rw[if_neg L] at h
 by_cases M:k=5
 ·subst M
  rw[show((5:Int)==5)=true from rfl,ct]
  exact congrArg K (Ma (c:=c) (e:=⟨5,a,b,v⟩)).symm
 rw[show(k==5)=false by simpa using M,cf]
 rw[if_neg M] at h
 by_cases S:k=6
 ·subst S
  rw[if_pos rfl] at h;simp only[Bool.and_eq_true] at h;obtain⟨e1,s,e3⟩:=h
  have i3:=d e3
  have l3:=m v (by omega)
  have e:U2 c ⟨6,a,b,v⟩=[99,114,97,115,104]++(Bq c 0 a++(Bq c 0 b++Bq c 9 v)):=Ma
  rw[show((6:Int)==6)=true from rfl,ct,C,j v (by omega),NS (by omega),e,iF,iF,MO (by decide)]
  simp
 rw[show(k==6)=false by simpa using S,cf]
 rw[if_neg S] at h
 by_cases T:k=7
 ·subst T
  rw[show((7:Int)==7)=true from rfl,ct]
  exact congrArg K (Ma (c:=c) (e:=⟨7,a,b,v⟩)).symm
 rw[show(k==7)=false by simpa using T,cf]
 rw[if_neg T] at h
 by_cases V:k=8
 ·subst V
  rw[if_pos rfl] at h;simp only[Bool.and_eq_true] at h;obtain⟨e1,s,e3⟩:=h
  have i2:=d s
  have l2:=m b (by omega)
  have e:U2 c ⟨8,a,b,v⟩=[114,101,116,114,121]++(Bq c 0 a++(Bq c 4 b++Bq c 0 v)):=Ma
  rw[t,j b (by omega),NS (by omega),e,iF,iF,MO (by decide)]
  simp
 rw[if_neg V] at h
 cases h
end
end Gx.Cf

namespace Gx.Cf
open Go Go.Proofs
section
variable {R:Type}
theorem A3d {N:Nat} {c:CaseD} {d g f:Bool} {K:List UInt8→Int→O R} {l:List EvD} (hN:100≤N) (s:l.length≤256) (hs:Small c N) (q:Cc c=none):∀ (j m fuel:Nat),m+j=l.length→j<fuel→(∀ e ∈ l.take m,rx c e=true) →
  Ii N K (l.flatMap EvD.av) l.length g f d c.av fuel (FL c (l.take m)) (m:Int)=cond ((l.drop m).all (rx c)) (K (FL c l) 0) (K [] 1)
 | 0,m,fuel+1,z,_,n=>by
  have t:m=l.length:=by omega
  subst t
  rw[Ii];unfold Wu
  rw[Jf (by omega),cf,List.take_length,List.drop_length]
  rfl
 | j+1,m,fuel+1,z,F,n=>by
  have h:m<l.length:=by omega
  have A:(FL c (l.take m)).length≤256*73:=by
   have u:=zT hs q _ n
   have x:(l.take m).length≤256:=by rw[List.length_take];omega
   exact Nat.le_trans u (Nat.mul_le_mul_right _ x)
  obtain⟨u,x⟩:=fj l m h
  have C:((!f)||Az l[m].av)=true:=by cases f<;>rfl
  have D:rx c l[m]=S8 c l[m].k l[m].a l[m].b l[m].v:=rfl
  rw[Ii];unfold Wu
  rw[Hy h,ct,D8,ct,Ab h,ct]
  simp only[Int.toNat_natCast,u,x,C,ct,B6]
  rw[show l[m].av=Af5 l[m].k l[m].a l[m].b l[m].v from rfl,xw hs (Kq q),List.drop_eq_getElem_cons h,List.all_cons,D]
  cases y:S8 c l[m].k l[m].a l[m].b l[m].v with
  | false=>rfl
  | true =>
   have G:=Ax2 hs q (e:=l[m]) y
   rw[show(!true)=false from rfl,cf,show Af5 l[m].k l[m].a l[m].b l[m].v=l[m].av from rfl,A16 (by omega) hs q y,show Nat.ble ((FL c (l.take m)).length+(U2 c l[m]).length) 140737488355328=true by rw[Bs];exact decide_eq_true (by omega),ct,
    show Nat.ble ((FL c (l.take m)++U2 c l[m]).length+1) 140737488355328=true by rw[Bs,List.length_append];exact decide_eq_true (by omega),ct,wS (by omega),List.append_assoc,←Ags h,Bool.true_and]
   exact A3d hN s hs q j (m+1) fuel (by omega) (by omega) (fun e i=>by
    rw[List.take_succ_eq_append_getElem h,List.mem_append,List.mem_singleton] at i
    rcases i with i | rfl
    ·exact n e i
    ·exact y)
theorem aN {N:Nat} {c:CaseD} {d g f:Bool} {K:List UInt8→Int→O R} {l:List EvD} (hN:4096≤N) (hs:Small c N):Uf N c.av d (l.flatMap EvD.av) l.length g f K=K (iE c l).1 (iE c l).2:=by
 rw[gA];unfold MN iE
 rw[D8,ct,B6,HX hs hN]
 cases e:Cc c with
 | some x =>
  have:(Bp (some x) != 0)=true:=by rw[bne_iff_ne];exact x.2.2
  dsimp only
  rw[this]
  rfl
 | none =>
  dsimp only
  refine Eq.trans (b:=cond (decide (((l.length:Nat):Int)>256)) (K [] 8) (Ii N K (l.flatMap EvD.av) l.length g f d c.av N [] ((0:Nat):Int))) rfl ?_
  by_cases h:256<l.length
  ·rw[if_pos h,decide_eq_true (by omega)];rfl
  rw[if_neg h,decide_eq_false (by omega),cf]
  have:=A3d (K:=K) (d:=d) (g:=g) (f:=f) (l:=l) (by omega) (by omega) hs e l.length 0 N (by omega) (by omega) (by simp)
  rw[List.drop_zero] at this
  refine Eq.trans this ?_
  cases l.all (rx c)<;>rfl
theorem Agt {N:Nat} {H:Int} {j:List Int} {bs:List BusD} {ls:List LineD} {us:List UnitD} {ss:List StoreD} {ts:List TieD} {os:List OutD} {l raw:List Int} {x:List EvD} {x1 x2 x3 x4 x5 x6 x7 y1 y2 y3:Bool} {near t1 t2 t3:Bool}
  (hs:Small ⟨H,.of j false false,.of bs false false,.of ls false false,.of us false false,.of ss false false,.of ts false false,.of os false false⟩ N) (k:fit 1200000 N) (q:l.length≤9223372036854775807) (hr:raw.length≤9223372036854775807) {K:Bool→O R} :
  Hm N H (j.flatMap IS) j.length x1 false (bs.flatMap BusD.av) bs.length x2 false (ls.flatMap LineD.av) ls.length x3 false (us.flatMap UnitD.av) us.length x4 false (ss.flatMap StoreD.av) ss.length x5 false (ts.flatMap TieD.av) ts.length x6 false (os.flatMap OutD.av) os.length x7 false
   (Aq l) l.length t1 y1 (Aq raw) raw.length t2 y2 (x.flatMap EvD.av) x.length t3 y3 near K=K true:=by
 have hN:=k.1
 obtain⟨tt,u⟩:=Amw (R:=R) (o:=false) hs
 rw[U3];unfold Kr
 refine(u _).trans ?_
 refine L9 ?_ rfl
 obtain⟨t,m⟩:=A15 (R:=R) (N:=N) (b:=l.length) (c:=raw.length) (d:=Aq l) (g:=Aq raw) (e:=false) (f:=y1) (i:=false) (l:=y2)
 refine(m _).trans ?_
 refine L9 (L9 rfl ?_) rfl
 unfold Hw Mb
 refine L9 ?_ ?_
 ·obtain⟨c,g,v⟩:=pn (R:=R) (N:=N) (l:=l) (n:=l.length) (t:=false) (o:=y1) rfl (by omega) q
  have hs:=Amu (N:=N) (by omega) g
  obtain⟨x,y,z,A⟩:=Ax3 (R:=R) (N:=N) (c:=c) (raw:=raw) (i:=false) (s:=false) (d:=y2) (by omega) (A8g g) hs hr
  rw[v,show((Nat.beq 0 0)&&((Nat.beq (List.length c.av) 8)&&(Nat.beq 8 8)))=true from rfl,ct,D8,ct,B6,A]
  show Hv N K x.length (x.flatMap EvD.av) c.av=K true
  unfold Hv
  rw[D8,ct,B6,A8h,gD (by omega) hs,ct,aN (by omega) hs,zR k]
  simp
 ·unfold Nt
  refine(gD (by omega) hs).trans ?_
  refine(aN (by omega) hs).trans ?_
  rw[zR k]
  simp
end
end Gx.Cf
