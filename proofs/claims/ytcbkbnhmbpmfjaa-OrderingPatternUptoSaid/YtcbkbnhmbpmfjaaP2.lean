/- A part of the proof: what it holds is said by each theorem. -/
import Derived.Shelf.Sort.Plain
import Derived.Ground.Names2Prog
import Derived.Shelf.Slices.Delete
import Derived.Maps.RangeWalk
import Derived.Maps.OwnSet
import Derived.Maps.AppendAt
import Derived.Sort.OwnSortedInts
import Derived.Sort.KeysCollected
import Derived.OwnWalk
import Derived.Test.YtcbkbnhmbpmfjaaP1
set_option linter.unusedVariables false
set_option linter.defProp false
set_option linter.unusedSimpArgs false
namespace Gx
open Go Go.Proofs
open IntKind (wrap)
set_option maxRecDepth 100000
noncomputable section
variable {R:Type} (N:Nat)
def Oq (N:Nat) (b:Int) (r0:Bool→O R):O R :=
 (r0 (b != b))
def Hv:=(Ak (@Oq R)).1
theorem P7:@Hv R=@Oq R:=(Ak _).2
def S6 (F:KF R):Bool→O R:=(fun c=>F (.bool c) [])
theorem S7 (b:Int) (F:KF R):Ga [] S5 N 77 [(iv b)] [] F=(Hv N b (S6 F)):=by
 rw[P7]
 kernel_rfl
def P8 (a:LA) (h:Ag) (k:KF R):O R :=
 match a,h with
 | [(.int .i64 b)],[]=>(Hv N b (S6 k))
 | _,_=>none
theorem S8:At N 77 @P8:=by
 intro R Q a h k j;unfold P8;split;exact Bg (S7 ..) (S7 ..) trivial;exact Bi
def K':=Bf (S8 N)
def LB:=Gi (S8 N)
def Ru (b c:Int) (r0:Bool→O R):O R :=
 (Hv N b (fun d=>(cond (d==true) (Hv N c (fun e=>(cond ((cond true (!e) false)==false) (r0 (cond false true (decide (b<c)))) (r0 true)))) (r0 (cond false true (decide (b<c)))))))
def Jm:=(Ak (@Ru R)).1
theorem S9:@Jm R=@Ru R:=(Ak _).2
def UU:Ke:=[(77,K' N)]
def Wf (F:KF R):Bool→O R:=(fun f=>F (.bool f) [])
theorem Wg (b c:Int) (F:KF R):Ga (UU N) S5 N 66 [(iv b),(iv c)] [] F=(Jm N b c (Wf F)):=by
 rw[S9]
 kernel_rfl
def Ta (a:LA) (h:Ag) (k:KF R):O R :=
 match a,h with
 | [(.int .i64 b),(.int .i64 c)],[]=>(Jm N b c (Wf k))
 | _,_=>none
theorem Wh:At N 66 @Ta:=by
 intro R Q a h k j;unfold Ta;split;exact Bg (Wg ..) (Wg ..) ⟨LB N,trivial⟩;exact Bi
def Q_:=Bf (Wh N)
def RA:=Gi (Wh N)
def LC (N:Nat) (r0:LA→O R):O R :=
 (r0 [(.bool false),(.imm [] 0 1 false false),(.imm [(.int .u32 1)] 1 1 false false)])
def Ot:=(Ak (@LC R)).1
theorem GZ:@Ot R=@LC R:=(Ak _).2
def ND (F:KF R):LA→O R:=(fun b=>F (.pagg b false) [])
theorem NE (F:KF R):Ga [] Oo N 42 [] [] F=(Ot N (ND F)):=by
 rw[GZ]
 kernel_rfl
def G_ (a:LA) (h:Ag) (k:KF R):O R :=
 match a,h with
 | [],[]=>(Ot N (ND k))
 | _,_=>none
theorem NF:At N 42 @G_:=by
 intro R Q a h k j;unfold G_;split;exact Bg (NE ..) (NE ..) trivial;exact Bi
def Yj:=Bf (NF N)
def Yk:=Gi (NF N)
def Np (N:Nat) (r0:Nat→LA→O R) (d:LA) (c:Nat) (f e:Bool) (k0:Int→O R) (b:Int):O R :=
 (cond ((decide (b>0))==true) (cond (Af (wrap .i64 (b - 1)) c) (Ch .u32 (d.drop (((wrap .i64 (b - 1)).toNat)*1)) fun g=>(cond (cond true (g==0) false) (k0 (wrap .i64 (b - 1))) (cond ((decide ((0:Int)≤(0:Int)))&&((decide (0≤b))&&((decide (b≤((c:Nat):Int)))&&(decide (((c:Nat):Int)≤((c:Nat):Int)))))) (cond ((!e)||(Cf (d.take ((b.toNat)*1)))) (cond ((Nat.ble (0+(b.toNat)) 140737488355328)&&(Nat.ble ((0+(b.toNat))*4) 140737488355328)) (r0 (0+(b.toNat)) (d.take ((b.toNat)*1))) none) none) none))) none) (cond ((decide ((0:Int)≤(0:Int)))&&((decide (0≤b))&&((decide (b≤((c:Nat):Int)))&&(decide (((c:Nat):Int)≤((c:Nat):Int)))))) (cond ((!e)||(Cf (d.take ((b.toNat)*1)))) (cond ((Nat.ble (0+(b.toNat)) 140737488355328)&&(Nat.ble ((0+(b.toNat))*4) 140737488355328)) (r0 (0+(b.toNat)) (d.take ((b.toNat)*1))) none) none) none))
def Gl (r0:Nat→LA→O R) (d:LA) (c:Nat) (f e:Bool):Nat→Int→O R
 | 0,_=>none
 | n+1,b=>(Np N r0 d c f e (Gl r0 d c f e n) b)
def Tb (N:Nat) (r0:Nat→LA→O R) (q0:Int→O R) (d:LA) (c:Nat) (f e:Bool):O R :=
 (q0 ((c:Nat):Int))
def Bz:=(Ak (fun (N:Nat) (d:LA) (c:Nat) (f e:Bool) (r0:Nat→LA→O R)=>(Tb N r0 (fun b=>(Gl N r0 d c f e N b)) d c f e))).1
theorem U7 (d c f e r0):(@Bz R N d c f e r0)=(Tb N r0 (fun b=>(Gl N r0 d c f e N b)) d c f e):=by rw[Bz,(Ak _).2]
def fj (F:KF R):=Rt Try.f105 cC [] [] N F
def Lu (F:KF R):Nat→LA→O R:=(fun i l=>F (.own 300000 0 i) (hq [(bQ 1 l)]))
def fk (d:LA) (c:Nat) (f e:Bool) (b:Int):St:=⟨[(0,(.imm d c 1 f e)),(3,(iv b))],[]⟩
def fl (F:KF R):=fj N F [1,1,0,0] []
theorem Yl (F:KF R) (d:LA) (c:Nat) (f e:Bool):∀ (n:Nat) (b:Int),Aj (fl N F) n (fk d c f e b)=(Gl N (Lu F) d c f e n b)
 | 0,_=>by kernel_rfl
 | n+1,b=>Eq.trans (by kernel_rfl) (Dc (Np N (Lu F) d c f e · b) (funext fun b=>(Yl F d c f e n b)):_)
theorem NG (d:LA) (c:Nat) (f e:Bool) (F:KF R):Ga [] cC N 105 [(.imm d c 1 f e)] [] F=(Bz N d c f e (Lu F)):=by
 rw[U7]
 exact Eq.trans (by kernel_rfl) (Dc (Tb N (Lu F) · d c f e) (funext fun b=>(Ah ..).trans (Yl N F d c f e N b)):_)
def G' (a:LA) (h:Ag) (k:KF R):O R :=
 match a,h with
 | [(.imm d c 1 f e)],[]=>(Bz N d c f e (Lu k))
 | _,_=>none
theorem NH:At N 105 @G':=by
 intro R Q a h k j;unfold G';split;exact Bg (NG ..) (NG ..) trivial;exact Bi
def Dr:=Bf (NH N)
def Ds:=Gi (NH N)
def LD (b:Bool) (c:LA) (d:Nat) (f e:Bool) (r0:LA→O R):O R :=
 (Bz N c d false e (fun g i=>(cond (b==true) (r0 [(.bool (cond true (decide (((g:Nat):Int)>0)) false)),(.imm (i.take (g*1)) g 1 false false)]) (r0 [(.bool false),(.imm (i.take (g*1)) g 1 false false)]))))
def Dh:=(Ak (@LD R)).1
theorem HA:@Dh R=@LD R:=(Ak _).2
def iz:Ke:=[(105,Dr N)]
def NI (F:KF R):LA→O R:=(fun l=>F (.pagg l false) [])
theorem NJ (b:Bool) (c:LA) (d:Nat) (f e:Bool) (F:KF R):Ga (iz N) Oo N 84 [(.bool b),(.imm c d 1 f e)] [] F=(Dh N b c d f e (NI F)):=by
 rw[HA]
 kernel_rfl
def HC (a:LA) (h:Ag) (k:KF R):O R :=
 match a,h with
 | [(.bool b),(.imm c d 1 f e)],[]=>(Dh N b c d f e (NI k))
 | _,_=>none
theorem NK:At N 84 @HC:=by
 intro R Q a h k j;unfold HC;split;exact Bg (NJ ..) (NJ ..) ⟨Ds N,trivial⟩;exact Bi
def E9:=Bf (NK N)
def Fa:=Gi (NK N)
def LE (b:LA) (c:Bool) (r0:LA→O R):O R :=
 (NB b fun e=>(Gk 1 (b.drop 1) fun f g=>(Dh N e f g false c (fun d=>(cond ((Nat.beq 0 0)&&((Nat.beq (d.length) 2)&&(Nat.beq 2 2))) (cond (Nat.ble 2 (d.length)) (r0 (d.take 2)) none) none)))))
def Ou:=(Ak (@LE R)).1
theorem HD:@Ou R=@LE R:=(Ak _).2
def jA:Ke:=[(84,E9 N)]
def NL (F:KF R):LA→O R:=(fun i=>F (.pagg i false) [])
theorem NM (b:LA) (c:Bool) (F:KF R):Ga (jA N) Oo N 76 [(.pagg b c)] [] F=(Ou N b c (NL F)):=by
 rw[HD]
 kernel_rfl
def HE (a:LA) (h:Ag) (k:KF R):O R :=
 match a,h with
 | [(.pagg b c)],[]=>(Ou N b c (NL k))
 | _,_=>none
theorem NN:At N 76 @HE:=by
 intro R Q a h k j;unfold HE;split;exact Bg (NM ..) (NM ..) ⟨Fa N,trivial⟩;exact Bi
def NO:=Bf (NN N)
def NP:=Gi (NN N)
def LF (b:LA) (c:Bool) (r0:Int→O R):O R :=
 (cond (Nat.ble 2 (b.length)) (Ou N (b.take 2) c (fun d=>(cond ((Nat.beq (d.length) 2)&&((Nat.ble 2 (b.length))&&(!false))) (NB (setCells b 0 d) fun e=>(cond e (r0 (-1)) (Gk 1 ((setCells b 0 d).drop 1) fun i f=>(cond (((f:Nat):Int)==0) (r0 0) (r0 1))))) none))) none)
def Ov:=(Ak (@LF R)).1
theorem HF:@Ov R=@LF R:=(Ak _).2
def jB:Ke:=[(76,NO N)]
def NQ (F:KF R):Int→O R:=(fun g=>F (iv g) [])
theorem NR (b:LA) (c:Bool) (F:KF R):Ga (jB N) S5 N 64 [(.pagg b c)] [] F=(Ov N b c (NQ F)):=by
 rw[HF]
 kernel_rfl
def HG (a:LA) (h:Ag) (k:KF R):O R :=
 match a,h with
 | [(.pagg b c)],[]=>(Ov N b c (NQ k))
 | _,_=>none
theorem NS:At N 64 @HG:=by
 intro R Q a h k j;unfold HG;split;exact Bg (NR ..) (NR ..) ⟨NP N,trivial⟩;exact Bi
def NT:=Bf (NS N)
def NU:=Gi (NS N)
def Ll (N:Nat) (r0:Bool→O R) (d:LA) (b:Nat) (f g:Bool) (e:LA) (c:Nat) (i l:Bool) (k0:Int→O R) (m:Int):O R :=
 (cond (decide (m<((b:Nat):Int))) (cond (Af m b) (Ch .u32 (d.drop ((m.toNat)*1)) fun o=>(cond (Af m c) (Ch .u32 (e.drop ((m.toNat)*1)) fun p=>(cond (o != p) (r0 false) (k0 (wrap .i64 (m+1))))) none)) none) (r0 true))
def Fh (r0:Bool→O R) (d:LA) (b:Nat) (f g:Bool) (e:LA) (c:Nat) (i l:Bool):Nat→Int→O R
 | 0,_=>none
 | n+1,m=>(Ll N r0 d b f g e c i l (Fh r0 d b f g e c i l n) m)
def U8 (N:Nat) (r0:Bool→O R) (q0:Int→O R) (d:LA) (b:Nat) (f g:Bool) (e:LA) (c:Nat) (i l:Bool):O R :=
 (cond (((b:Nat):Int) != ((c:Nat):Int)) (r0 false) (q0 0))
def N7:=(Ak (fun (N:Nat) (d:LA) (b:Nat) (f g:Bool) (e:LA) (c:Nat) (i l:Bool) (r0:Bool→O R)=>(U8 N r0 (fun m=>(Fh N r0 d b f g e c i l N m)) d b f g e c i l))).1
theorem CU (d b f g e c i l r0):(@N7 R N d b f g e c i l r0)=(U8 N r0 (fun m=>(Fh N r0 d b f g e c i l N m)) d b f g e c i l):=by rw[N7,(Ak _).2]
def d_ (F:KF R):=Rt Try.f80 NC [] [] N F
def Jn (F:KF R):Bool→O R:=(fun q=>F (.bool q) [])
def da (d:LA) (b:Nat) (f g:Bool) (e:LA) (c:Nat) (i l:Bool) (m:Int):St:=⟨[(0,(.imm d b 1 f g)),(1,(.imm e c 1 i l)),(5,(iv m))],[]⟩
def db (F:KF R):=d_ N F [1,1,0,1,0] []
theorem Wi (F:KF R) (d:LA) (b:Nat) (f g:Bool) (e:LA) (c:Nat) (i l:Bool):∀ (n:Nat) (m:Int),Aj (db N F) n (da d b f g e c i l m)=(Fh N (Jn F) d b f g e c i l n m)
 | 0,_=>by kernel_rfl
 | n+1,m=>Eq.trans (by kernel_rfl) (Dc (Ll N (Jn F) d b f g e c i l · m) (funext fun m=>(Wi F d b f g e c i l n m)):_)
theorem HH (d:LA) (b:Nat) (f g:Bool) (e:LA) (c:Nat) (i l:Bool) (F:KF R):Ga [] NC N 80 [(.imm d b 1 f g),(.imm e c 1 i l)] [] F=(N7 N d b f g e c i l (Jn F)):=by
 rw[CU]
 exact Eq.trans (by kernel_rfl) (Dc (U8 N (Jn F) · d b f g e c i l) (funext fun m=>(Ah ..).trans (Wi N F d b f g e c i l N m)):_)
def CV (a:LA) (h:Ag) (k:KF R):O R :=
 match a,h with
 | [(.imm d b 1 f g),(.imm e c 1 i l)],[]=>(N7 N d b f g e c i l (Jn k))
 | _,_=>none
theorem HI:At N 80 @CV:=by
 intro R Q a h k j;unfold CV;split;exact Bg (HH ..) (HH ..) trivial;exact Bi
def dc:=Bf (HI N)
def dd:=Gi (HI N)
def Cz (N:Nat) (r0:Int→Bool→O R) (b:Nat) (d:LA) (k0:Int→Int→O R) (e c:Int):O R :=
 (cond (decide (c≥0)) (cond (Af c b) (Ch .u32 (d.drop (0+((c.toNat)*1))) fun m=>(k0 (US .u64 (wrap .u64 (e*2 ^ 32)) (wrap .u64 m)) (wrap .i64 (c - 1)))) none) (r0 e true))
def Cc (r0:Int→Bool→O R) (b:Nat) (d:LA):Nat→Int→Int→O R
 | 0,_,_=>none
 | n+1,e,c=>(Cz N r0 b d (Cc r0 b d n) e c)
def P9 (r0:Int→Bool→O R) (q0:Nat→LA→Int→Int→O R) (f:LA) (g:Nat) (l i:Bool):O R :=
 (Bz N f g false i (fun b d=>(cond (decide (((b:Nat):Int)>2)) (r0 0 false) (q0 b d 0 (wrap .i64 (((b:Nat):Int) - 1))))))
def Ih:=(Ak (fun (N:Nat) (f:LA) (g:Nat) (l i:Bool) (r0:Int→Bool→O R)=>(P9 N r0 (fun b d e c=>(Cc N r0 b d N e c)) f g l i))).1
theorem Ym (f g l i r0):(@Ih R N f g l i r0)=(P9 N r0 (fun b d e c=>(Cc N r0 b d N e c)) f g l i):=by rw[Ih,(Ak _).2]
def CW:Hints:={ H:=(hS hL (hS hL (hS hL (hS hL (hS (hS hL (hS (hP [0,4,5] hL) hL)) hL))))) }
def HJ:Ke:=[(105,Dr N)]
def aO (F:KF R):=Rt Try.f115 CW (HJ N) [] N F
def Hw (F:KF R):Int→Bool→O R:=(fun o p=>F (.tup [(.int .u64 o),(.bool p)]) [])
def aP (b:Nat) (d:LA) (e c:Int):St:=⟨[(0,(.own 300000 0 b)),(4,(.int .u64 e)),(5,(iv c))],(hq [(bQ 1 d)])⟩
def aQ (F:KF R):=aO N F [1,1,1,1,0,1,0] []
theorem Tc (F:KF R) (b:Nat) (d:LA):∀ (n:Nat) (e c:Int),Aj (aQ N F) n (aP b d e c)=(Cc N (Hw F) b d n e c)
 | 0,_,_=>by kernel_rfl
 | n+1,e,c=>Eq.trans (by kernel_rfl) (Dc (Cz N (Hw F) b d · e c) (funext fun e=>funext fun c=>(Tc F b d n e c)):_)
theorem CX (f:LA) (g:Nat) (l i:Bool) (F:KF R):Ga (HJ N) CW N 115 [(.imm f g 1 l i)] [] F=(Ih N f g l i (Hw F)):=by
 rw[Ym]
 exact Eq.trans (by kernel_rfl) (Dc (P9 N (Hw F) · f g l i) (funext fun b=>funext fun d=>funext fun e=>funext fun c=>(Ah ..).trans (Tc N F b d N e c)):_)
def Yn (a:LA) (h:Ag) (k:KF R):O R :=
 match a,h with
 | [(.imm f g 1 l i)],[]=>(Ih N f g l i (Hw k))
 | _,_=>none
theorem CY:At N 115 @Yn:=by
 intro R Q a h k j;unfold Yn;split;exact Bg (CX ..) (CX ..) ⟨Ds N,trivial⟩;exact Bi
def aR:=Bf (CY N)
def aS:=Gi (CY N)
def Mp (b:Int) (r0:Nat→LA→O R):O R :=
 (Bz N [(.int .u32 (wrap .u32 b)),(.int .u32 (wrap .u32 (Int.fdiv b (2 ^ 32))))] 2 false true (fun c d=>(r0 c d)))
def C0:=(Ak (@Mp R)).1
theorem Ow:@C0 R=@Mp R:=(Ak _).2
def HK:Hints:={ H:=hL,nils:=[(2,1)],modes:=[(2,1)] }
def LG:Ke:=[(105,Dr N)]
def Qa (F:KF R):Nat→LA→O R:=(fun e f=>F (.own 300000 0 e) (hq [(bQ 1 f)]))
theorem Qb (b:Int) (F:KF R):Ga (LG N) HK N 85 [(.int .u64 b)] [] F=(C0 N b (Qa F)):=by
 rw[Ow]
 kernel_rfl
def Ox (a:LA) (h:Ag) (k:KF R):O R :=
 match a,h with
 | [(.int .u64 b)],[]=>(C0 N b (Qa k))
 | _,_=>none
theorem Qc:At N 85 @Ox:=by
 intro R Q a h k j;unfold Ox;split;exact Bg (Qb ..) (Qb ..) ⟨Ds N,trivial⟩;exact Bi
def Qd:=Bf (Qc N)
def Qe:=Gi (Qc N)
def Jo (N:Nat) (r0:Int→O R) (k0:Int→Int→O R) (b c:Int):O R :=
 (cond (decide (c>0)) (k0 (wrap .i64 (b+1)) (Int.fdiv c (2 ^ 1))) (r0 b))
def Fb (r0:Int→O R):Nat→Int→Int→O R
 | 0,_,_=>none
 | n+1,b,c=>(Jo N r0 (Fb r0 n) b c)
def Td (r0:Int→O R) (q0:Int→Int→O R) (d:LA) (e:Nat) (g f:Bool):O R :=
 (Bz N d e false f (fun i l=>(cond (((i:Nat):Int)==0) (r0 0) (cond (Af (wrap .i64 (((i:Nat):Int) - 1)) i) (Ch .u32 (l.drop (0+(((wrap .i64 (((i:Nat):Int) - 1)).toNat)*1))) fun m=>(q0 (wrap .i64 (32*(wrap .i64 (((i:Nat):Int) - 1)))) m)) none))))
def Te:=(Ak (fun (N:Nat) (d:LA) (e:Nat) (g f:Bool) (r0:Int→O R)=>(Td N r0 (fun b c=>(Fb N r0 N b c)) d e g f))).1
theorem U9 (d e g f r0):(@Te R N d e g f r0)=(Td N r0 (fun b c=>(Fb N r0 N b c)) d e g f):=by rw[Te,(Ak _).2]
def NW:Hints:={ H:=(hS hL (hS hL (hS hL (hS hL (hS (hS hL (hS (hP [3,4] hL) hL)) hL))))) }
def UV:Ke:=[(105,Dr N)]
def fm (F:KF R):=Rt Try.f116 NW (UV N) [] N F
def Lv (F:KF R):Int→O R:=(fun o=>F (iv o) [])
def fq (b c:Int):St:=⟨[(3,(iv b)),(4,(.int .u32 c))],[]⟩
def ft (F:KF R):=fm N F [1,1,1,1,0,1,0] []
theorem Yo (F:KF R):∀ (n:Nat) (b c:Int),Aj (ft N F) n (fq b c)=(Fb N (Lv F) n b c)
 | 0,_,_=>by kernel_rfl
 | n+1,b,c=>Eq.trans (by kernel_rfl) (Dc (Jo N (Lv F) · b c) (funext fun b=>funext fun c=>(Yo F n b c)):_)
theorem NX (d:LA) (e:Nat) (g f:Bool) (F:KF R):Ga (UV N) NW N 116 [(.imm d e 1 g f)] [] F=(Te N d e g f (Lv F)):=by
 rw[U9]
 exact Eq.trans (by kernel_rfl) (Dc (Td N (Lv F) · d e g f) (funext fun b=>funext fun c=>(Ah ..).trans (Yo N F N b c)):_)
def HL (a:LA) (h:Ag) (k:KF R):O R :=
 match a,h with
 | [(.imm d e 1 g f)],[]=>(Te N d e g f (Lv k))
 | _,_=>none
theorem NY:At N 116 @HL:=by
 intro R Q a h k j;unfold HL;split;exact Bg (NX ..) (NX ..) ⟨Ds N,trivial⟩;exact Bi
def fu:=Bf (NY N)
def fv:=Gi (NY N)
def Oy (N:Nat) (k0:Nat→Int→Int→LA→O R) (r0:Nat→LA→O R) (d:LA) (b:Nat) (f g:Bool) (e:LA) (c:Nat) (i l:Bool) (m:Nat) (o:LA) (s q:Int):O R :=
 (cond (decide (q<((c:Nat):Int))) (cond (Af q c) (Ch .u32 (e.drop ((q.toNat)*1)) fun t=>(cond (Af q m) (cond ((Nat.beq 1 1)&&((Nat.ble ((0+((q.toNat)*1))+1) (o.length))&&(!false))) (k0 m (Int.fdiv (wrap .u64 (s+(wrap .u64 t))) (2 ^ 32)) (wrap .i64 (q+1)) (o.set (0+((q.toNat)*1)) (.int .u32 (wrap .u32 (wrap .u64 (s+(wrap .u64 t))))))) none) none)) none) (cond (Af q m) (cond ((Nat.beq 1 1)&&((Nat.ble ((0+((q.toNat)*1))+1) (o.length))&&(!false))) (k0 m (Int.fdiv s (2 ^ 32)) (wrap .i64 (q+1)) (o.set (0+((q.toNat)*1)) (.int .u32 (wrap .u32 s)))) none) none))
def Qf (r0:Nat→LA→O R) (d:LA) (b:Nat) (f g:Bool) (e:LA) (c:Nat) (i l:Bool) (k0:Nat→Int→Int→LA→O R) (q1:Int→Int→O R) (m:Nat) (r p:Int) (o:LA):O R :=
 (cond (decide (p<((m:Nat):Int))) (cond (decide (p<((b:Nat):Int))) (cond (Af p b) (Ch .u32 (d.drop ((p.toNat)*1)) fun u=>(q1 (wrap .u64 (r+(wrap .u64 u))) p)) none) (q1 r p)) (Bz N (o.take (m*1)) m false true (fun v w=>(r0 v w))))
def Er (r0:Nat→LA→O R) (d:LA) (b:Nat) (f g:Bool) (e:LA) (c:Nat) (i l:Bool):Nat→Nat→Int→Int→LA→O R
 | 0,_,_,_,_=>none
 | n+1,m,r,p,o=>(Qf N r0 d b f g e c i l (Er r0 d b f g e c i l n) (fun s q=>(Oy N (Er r0 d b f g e c i l n) r0 d b f g e c i l m o s q)) m r p o)
def HM (N:Nat) (r0:Nat→LA→O R) (q0:Nat→Int→Int→LA→O R) (d:LA) (b:Nat) (f g:Bool) (e:LA) (c:Nat) (i l:Bool):O R :=
 (cond ((decide (0≤(wrap .i64 ((EW ((b:Nat):Int) ((c:Nat):Int))+1))))&&((decide ((wrap .i64 ((EW ((b:Nat):Int) ((c:Nat):Int))+1))≤(wrap .i64 ((EW ((b:Nat):Int) ((c:Nat):Int))+1))))&&((decide ((wrap .i64 ((EW ((b:Nat):Int) ((c:Nat):Int))+1))≤140737488355328))&&(decide (((wrap .i64 ((EW ((b:Nat):Int) ((c:Nat):Int))+1))*((4:Nat):Int))≤140737488355328))))) (q0 ((wrap .i64 ((EW ((b:Nat):Int) ((c:Nat):Int))+1)).toNat) 0 0 (List.replicate ((wrap .i64 ((EW ((b:Nat):Int) ((c:Nat):Int))+1)).toNat) (.int .u32 0))) none)
def Qg:=(Ak (fun (N:Nat) (d:LA) (b:Nat) (f g:Bool) (e:LA) (c:Nat) (i l:Bool) (r0:Nat→LA→O R)=>(HM N r0 (fun m r p o=>(Er N r0 d b f g e c i l N m r p o)) d b f g e c i l))).1
theorem NZ (d b f g e c i l r0):(@Qg R N d b f g e c i l r0)=(HM N r0 (fun m r p o=>(Er N r0 d b f g e c i l N m r p o)) d b f g e c i l):=by rw[Qg,(Ak _).2]
def UW:Hints:={ H:=(hS hL (hS hL (hS hL (hS (hS hL (hS (hP [0,1,5,6,7] (hS hL (hS (hS (hJ [0,1,5,6,7] hL hL) hL) hL))) hL)) hL)))),nils:=[(4,1)],modes:=[(2,1)] }
def cD:Ke:=[(105,Dr N)]
def UX (F:KF R):=Rt Try.f106 UW (cD N) [] N F
def Ii (F:KF R):Nat→LA→O R:=(fun x y=>F (.own 300000 0 x) (hq [(bQ 1 y)]))
def jC (d:LA) (b:Nat) (f g:Bool) (e:LA) (c:Nat) (i l:Bool) (m:Nat) (o:LA) (s q:Int):St:=⟨[(0,(.imm d b 1 f g)),(1,(.imm e c 1 i l)),(5,(.own 300000 0 m)),(6,(.int .u64 s)),(7,(iv q))],(hq [(bQ 1 o)])⟩
def jD (F:KF R) (Q0:St→O R):=UX N F [1,1,1,0,1,0,0,1,0,0,1] [Q0]
def UY (d:LA) (b:Nat) (f g:Bool) (e:LA) (c:Nat) (i l:Bool) (m:Nat) (r p:Int) (o:LA):St:=⟨[(0,(.imm d b 1 f g)),(1,(.imm e c 1 i l)),(5,(.own 300000 0 m)),(6,(.int .u64 r)),(7,(iv p))],(hq [(bQ 1 o)])⟩
def UZ (F:KF R):=UX N F [1,1,1,0,1,0] []
theorem aT (Q0:St→O R) (F:KF R) (d:LA) (b:Nat) (f g:Bool) (e:LA) (c:Nat) (i l:Bool) (m:Nat) (o:LA):∀ (s q:Int),Rs (jD N F Q0) (jC d b f g e c i l m o s q)=(Oy N (fun m r p o=>Q0 (UY d b f g e c i l m r p o)) (Ii F) d b f g e c i l m o s q):=by
 intro s q
 kernel_rfl
theorem CZ (F:KF R) (d:LA) (b:Nat) (f g:Bool) (e:LA) (c:Nat) (i l:Bool):∀ (n m:Nat) (r p:Int) (o:LA),Aj (UZ N F) n (UY d b f g e c i l m r p o)=(Er N (Ii F) d b f g e c i l n m r p o)
 | 0,_,_,_,_=>by kernel_rfl
 | n+1,m,r,p,o=>have e0:=(funext fun m=>funext fun r=>funext fun p=>funext fun o=>(CZ F d b f g e c i l n m r p o))
  Eq.trans (by kernel_rfl) (bz (Qf N (Ii F) d b f g e c i l · · m r p o) e0 (funext fun s=>funext fun q=>(Hf ..).trans ((aT N (Aj (UZ N F) n) F d b f g e c i l m o s q).trans (Dc (Oy N · (Ii F) d b f g e c i l m o s q) e0))):_)
theorem U_ (d:LA) (b:Nat) (f g:Bool) (e:LA) (c:Nat) (i l:Bool) (F:KF R):Ga (cD N) UW N 106 [(.imm d b 1 f g),(.imm e c 1 i l)] [] F=(Qg N d b f g e c i l (Ii F)):=by
 rw[NZ]
 exact Eq.trans (by kernel_rfl) (Dc (HM N (Ii F) · d b f g e c i l) (funext fun m=>funext fun r=>funext fun p=>funext fun o=>(Ah ..).trans (CZ N F d b f g e c i l N m r p o)):_)
def N_ (a:LA) (h:Ag) (k:KF R):O R :=
 match a,h with
 | [(.imm d b 1 f g),(.imm e c 1 i l)],[]=>(Qg N d b f g e c i l (Ii k))
 | _,_=>none
theorem U':At N 106 @N_:=by
 intro R Q a h k j;unfold N_;split;exact Bg (U_ ..) (U_ ..) ⟨Ds N,trivial⟩;exact Bi
def VA:=Bf (U' N)
def VB:=Gi (U' N)
def VC (N:Nat) (d:LA) (c:Nat) (e f:Bool) (b:Int) (r0:Int→O R):O R :=
 (cond (decide ((wrap .i64 (Int.tdiv b 32))≥((c:Nat):Int))) (r0 0) (cond (Af (wrap .i64 (Int.tdiv b 32)) c) (Ch .u32 (d.drop (((wrap .i64 (Int.tdiv b 32)).toNat)*1)) fun g=>(cond (decide ((wrap .u64 (Int.tmod b 32))<0)) none (r0 (iu .u32 (Int.fdiv g (2 ^ (min ((wrap .u64 (Int.tmod b 32)).toNat) 32))) 1)))) none))
def HN:=(Ak (@VC R)).1
theorem N':@HN R=@VC R:=(Ak _).2
def VD (F:KF R):Int→O R:=(fun i=>F (.int .u32 i) [])
theorem VE (d:LA) (c:Nat) (e f:Bool) (b:Int) (F:KF R):Ga [] S5 N 117 [(.imm d c 1 e f),(iv b)] [] F=(HN N d c e f b (VD F)):=by
 rw[N']
 kernel_rfl
def OA (a:LA) (h:Ag) (k:KF R):O R :=
 match a,h with
 | [(.imm d c 1 e f),(.int .i64 b)],[]=>(HN N d c e f b (VD k))
 | _,_=>none
theorem VF:At N 117 @OA:=by
 intro R Q a h k j;unfold OA;split;exact Bg (VE ..) (VE ..) trivial;exact Bi
def jE:=Bf (VF N)
def jF:=Gi (VF N)
def H8 (N:Nat) (r0:Int→O R) (c d:Nat) (e f:LA) (k0:Int→O R) (b:Int):O R :=
 (cond (decide (b≥0)) (cond (Af b c) (Ch .u32 (e.drop (0+((b.toNat)*1))) fun s=>(cond (Af b d) (Ch .u32 (f.drop (0+((b.toNat)*1))) fun t=>(cond (decide (s<t)) (r0 (-1)) (cond (Af b c) (Ch .u32 (e.drop (0+((b.toNat)*1))) fun u=>(cond (Af b d) (Ch .u32 (f.drop (0+((b.toNat)*1))) fun v=>(cond (decide (u>v)) (r0 1) (k0 (wrap .i64 (b - 1))))) none)) none))) none)) none) (r0 0))
def D3 (r0:Int→O R) (c d:Nat) (e f:LA):Nat→Int→O R
 | 0,_=>none
 | n+1,b=>(H8 N r0 c d e f (D3 r0 c d e f n) b)
def Nq (r0:Int→O R) (q0:Nat→Nat→LA→LA→Int→O R) (g:LA) (i:Nat) (q l:Bool) (m:LA) (o:Nat) (r p:Bool):O R :=
 (Bz N g i false l (fun c e=>(Bz N m o false p (fun d f=>(cond (((c:Nat):Int) != ((d:Nat):Int)) (cond (decide (((c:Nat):Int)<((d:Nat):Int))) (r0 (-1)) (r0 1)) (q0 c d e f (wrap .i64 (((c:Nat):Int) - 1))))))))
def Ix:=(Ak (fun (N:Nat) (g:LA) (i:Nat) (q l:Bool) (m:LA) (o:Nat) (r p:Bool) (r0:Int→O R)=>(Nq N r0 (fun c d e f b=>(D3 N r0 c d e f N b)) g i q l m o r p))).1
theorem Wj (g i q l m o r p r0):(@Ix R N g i q l m o r p r0)=(Nq N r0 (fun c d e f b=>(D3 N r0 c d e f N b)) g i q l m o r p):=by rw[Ix,(Ak _).2]
def Yp:Hints:={ H:=(hS hL (hS hL (hS hL (hS (hS hL (hS (hP [0,1,5] hL) hL)) hL)))) }
def C_:Ke:=[(105,Dr N)]
def VG (F:KF R):=Rt Try.f118 Yp (C_ N) [] N F
def Gm (F:KF R):Int→O R:=(fun w=>F (iv w) [])
def VH (c d:Nat) (e f:LA) (b:Int):St:=⟨[(0,(.own 300000 0 c)),(1,(.own 300001 0 d)),(5,(iv b))],(hq [(bQ 1 e),(bQ 1 f)])⟩
def VI (F:KF R):=VG N F [1,1,1,0,1,0] []
theorem Qh (F:KF R) (c d:Nat) (e f:LA):∀ (n:Nat) (b:Int),Aj (VI N F) n (VH c d e f b)=(D3 N (Gm F) c d e f n b)
 | 0,_=>by kernel_rfl
 | n+1,b=>Eq.trans (by kernel_rfl) (Dc (H8 N (Gm F) c d e f · b) (funext fun b=>(Qh F c d e f n b)):_)
theorem Yq (g:LA) (i:Nat) (q l:Bool) (m:LA) (o:Nat) (r p:Bool) (F:KF R):Ga (C_ N) Yp N 118 [(.imm g i 1 q l),(.imm m o 1 r p)] [] F=(Ix N g i q l m o r p (Gm F)):=by
 rw[Wj]
 exact Eq.trans (by kernel_rfl) (Dc (Nq N (Gm F) · g i q l m o r p) (funext fun c=>funext fun d=>funext fun e=>funext fun f=>funext fun b=>(Ah ..).trans (Qh N F c d e f N b)):_)
def Wk (a:LA) (h:Ag) (k:KF R):O R :=
 match a,h with
 | [(.imm g i 1 q l),(.imm m o 1 r p)],[]=>(Ix N g i q l m o r p (Gm k))
 | _,_=>none
theorem Yr:At N 118 @Wk:=by
 intro R Q a h k j;unfold Wk;split;exact Bg (Yq ..) (Yq ..) ⟨Ds N,trivial⟩;exact Bi
def VJ:=Bf (Yr N)
def VK:=Gi (Yr N)
def Oz (N:Nat) (k0:Int→Int→LA→O R) (r0:Nat→Bool→LA→O R) (b d:Nat) (e f c:LA) (i m:Int):O R :=
 (cond (Af i b) (Ch .u32 (e.drop (0+((i.toNat)*1))) fun w=>(cond (decide ((wrap .u64 w)<m)) (cond (Af i b) (cond ((Nat.beq 1 1)&&((Nat.ble ((0+((i.toNat)*1))+1) (c.length))&&(!false))) (k0 1 (wrap .i64 (i+1)) (c.set (0+((i.toNat)*1)) (.int .u32 (wrap .u32 (wrap .u64 ((wrap .u64 ((wrap .u64 w)+4294967296)) - m)))))) none) none) (cond (Af i b) (cond ((Nat.beq 1 1)&&((Nat.ble ((0+((i.toNat)*1))+1) (c.length))&&(!false))) (k0 0 (wrap .i64 (i+1)) (c.set (0+((i.toNat)*1)) (.int .u32 (wrap .u32 (wrap .u64 ((wrap .u64 w) - m)))))) none) none))) none)
def Qi (r0:Nat→Bool→LA→O R) (b d:Nat) (e f:LA) (k0:Int→Int→LA→O R) (q1:Int→Int→O R) (l g:Int) (c:LA):O R :=
 (cond (decide (g<((b:Nat):Int))) (cond (decide (g<((d:Nat):Int))) (cond (Af g d) (Ch .u32 (f.drop (0+((g.toNat)*1))) fun x=>(q1 g (wrap .u64 (l+(wrap .u64 x))))) none) (q1 g l)) (Bz N (c.take (b*1)) b false true (fun y z=>(r0 y true z))))
def Es (r0:Nat→Bool→LA→O R) (b d:Nat) (e f:LA):Nat→Int→Int→LA→O R
 | 0,_,_,_=>none
 | n+1,l,g,c=>(Qi N r0 b d e f (Es r0 b d e f n) (fun i m=>(Oz N (Es r0 b d e f n) r0 b d e f c i m)) l g c)
def HO (r0:Nat→Bool→LA→O R) (q0:Nat→Nat→LA→LA→Int→Int→LA→O R) (o:LA) (p:Nat) (u q:Bool) (r:LA) (s:Nat) (v t:Bool):O R :=
 (Ix N o p false q r s false t (fun aa=>(cond (decide (aa<0)) (r0 0 false []) (Bz N o p false q (fun b e=>(Bz N r s false t (fun d f=>(cond ((decide (0≤((b:Nat):Int)))&&((decide (((b:Nat):Int)≤((b:Nat):Int)))&&((decide (((b:Nat):Int)≤140737488355328))&&(decide ((((b:Nat):Int)*((4:Nat):Int))≤140737488355328))))) (q0 b d e f 0 0 (List.replicate b (.int .u32 0))) none))))))))
def Qj:=(Ak (fun (N:Nat) (o:LA) (p:Nat) (u q:Bool) (r:LA) (s:Nat) (v t:Bool) (r0:Nat→Bool→LA→O R)=>(HO N r0 (fun b d e f l g c=>(Es N r0 b d e f N l g c)) o p u q r s v t))).1
theorem OB (o p u q r s v t r0):(@Qj R N o p u q r s v t r0)=(HO N r0 (fun b d e f l g c=>(Es N r0 b d e f N l g c)) o p u q r s v t):=by rw[Qj,(Ak _).2]
def VL:Hints:={ H:=(hS hL (hS hL (hS hL (hS hL (hS hL (hS (hS hL (hS (hP [0,1,6,7,8] (hS hL (hS (hS (hS hL (hJ [0,1,6,8,9] hL hL)) hL) hL))) hL)) hL)))))),nils:=[(4,1)],modes:=[(2,1),(0,0)] }
def cE:Ke:=[(118,VJ N),(105,Dr N)]
def VM (F:KF R):=Rt Try.f107 VL (cE N) [] N F
def Ij (F:KF R):Nat→Bool→LA→O R:=(fun ab ac ad=>F (.tup [(.own 300000 0 ab),(.bool ac)]) (hq [(bQ 1 ad)]))
def jG (b d:Nat) (e f c:LA) (i m:Int):St:=⟨[(0,(.own 300000 0 b)),(1,(.own 300001 0 d)),(6,(.own 300002 0 b)),(8,(iv i)),(9,(.int .u64 m))],(hq [(bQ 1 e),(bQ 1 f),(bQ 1 c)])⟩
def jH (F:KF R) (Q0:St→O R):=VM N F [1,1,1,1,1,0,1,0,0,1,0,0,1,1] [Q0]
def VN (b d:Nat) (e f:LA) (l g:Int) (c:LA):St:=⟨[(0,(.own 300000 0 b)),(1,(.own 300001 0 d)),(6,(.own 300002 0 b)),(7,(.int .u64 l)),(8,(iv g))],(hq [(bQ 1 e),(bQ 1 f),(bQ 1 c)])⟩
def VO (F:KF R):=VM N F [1,1,1,1,1,0,1,0] []
theorem aU (Q0:St→O R) (F:KF R) (b d:Nat) (e f c:LA):∀ (i m:Int),Rs (jH N F Q0) (jG b d e f c i m)=(Oz N (fun l g c=>Q0 (VN b d e f l g c)) (Ij F) b d e f c i m):=by
 intro i m
 kernel_rfl
theorem C' (F:KF R) (b d:Nat) (e f:LA):∀ (n:Nat) (l g:Int) (c:LA),Aj (VO N F) n (VN b d e f l g c)=(Es N (Ij F) b d e f n l g c)
 | 0,_,_,_=>by kernel_rfl
 | n+1,l,g,c=>have e0:=(funext fun l=>funext fun g=>funext fun c=>(C' F b d e f n l g c))
  Eq.trans (by kernel_rfl) (bz (Qi N (Ij F) b d e f · · l g c) e0 (funext fun i=>funext fun m=>(Hf ..).trans ((aU N (Aj (VO N F) n) F b d e f c i m).trans (Dc (Oz N · (Ij F) b d e f c i m) e0))):_)
theorem VP (o:LA) (p:Nat) (u q:Bool) (r:LA) (s:Nat) (v t:Bool) (F:KF R):Ga (cE N) VL N 107 [(.imm o p 1 u q),(.imm r s 1 v t)] [] F=(Qj N o p u q r s v t (Ij F)):=by
 rw[OB]
 exact Eq.trans (by kernel_rfl) (Dc (HO N (Ij F) · o p u q r s v t) (funext fun b=>funext fun d=>funext fun e=>funext fun f=>funext fun l=>funext fun g=>funext fun c=>(Ah ..).trans (C' N F b d e f N l g c)):_)
def OC (a:LA) (h:Ag) (k:KF R):O R :=
 match a,h with
 | [(.imm o p 1 u q),(.imm r s 1 v t)],[]=>(Qj N o p u q r s v t (Ij k))
 | _,_=>none
theorem VQ:At N 107 @OC:=by
 intro R Q a h k j;unfold OC;split;exact Bg (VP ..) (VP ..) ⟨VK N,Ds N,trivial⟩;exact Bi
def VR:=Bf (VQ N)
def VS:=Gi (VQ N)
def F1 (k1:Nat→Int→LA→LA→O R) (r0:Nat→Nat→Bool→LA→LA→O R) (c:LA) (b:Nat) (e d:Bool) (f:Nat) (i:Int) (g l:LA) (p:Nat) (q:LA):O R :=
 (Qj N (q.take (p*1)) p false true (g.take (f*1)) f false true (fun z aa ab=>(cond aa (cond (Af (wrap .i64 (Int.tdiv i 32)) b) (Ch .u32 (l.drop (0+(((wrap .i64 (Int.tdiv i 32)).toNat)*1))) fun ac=>(cond (decide ((wrap .u64 (Int.tmod i 32))<0)) none (cond (Af (wrap .i64 (Int.tdiv i 32)) b) (cond ((Nat.beq 1 1)&&((Nat.ble ((0+(((wrap .i64 (Int.tdiv i 32)).toNat)*1))+1) (l.length))&&(!false))) (k1 z (wrap .i64 (i - 1)) (l.set (0+(((wrap .i64 (Int.tdiv i 32)).toNat)*1)) (.int .u32 (US .u32 ac (wrap .u32 ((1:Int)*2 ^ (min ((wrap .u64 (Int.tmod i 32)).toNat) 32)))))) ab) none) none))) none) (k1 p (wrap .i64 (i - 1)) l q))))
def Jp (r0:Nat→Nat→Bool→LA→LA→O R) (c:LA) (b:Nat) (e d:Bool) (f:Nat) (g:LA) (k1:Nat→Int→LA→LA→O R) (q2:Nat→LA→O R) (m:Nat) (i:Int) (l o:LA):O R :=
 (cond (decide (i≥0)) (Qg N (o.take (m*1)) m false true (o.take (m*1)) m false true (fun w x=>(HN N c b false d i (fun ad=>(cond (ad==1) (Qg N (x.take (w*1)) w false true [(.int .u32 1)] 1 false true (fun ae af=>(q2 ae af))) (q2 w x)))))) (Bz N (l.take (b*1)) b false true (fun ag ah=>(Bz N (o.take (m*1)) m false true (fun ai aj=>(r0 ag ai true ah aj))))))
def Cu (r0:Nat→Nat→Bool→LA→LA→O R) (c:LA) (b:Nat) (e d:Bool) (f:Nat) (g:LA):Nat→Nat→Int→LA→LA→O R
 | 0,_,_,_,_=>none
 | n+1,m,i,l,o=>(Jp N r0 c b e d f g (Cu r0 c b e d f g n) (fun p q=>(F1 N (Cu r0 c b e d f g n) r0 c b e d f i g l p q)) m i l o)
def O0 (r0:Nat→Nat→Bool→LA→LA→O R) (c:LA) (b:Nat) (e d:Bool) (f:Nat) (g:LA) (q1:Nat→Int→LA→LA→O R):O R :=
 (cond ((decide (0≤((b:Nat):Int)))&&((decide (((b:Nat):Int)≤((b:Nat):Int)))&&((decide (((b:Nat):Int)≤140737488355328))&&(decide ((((b:Nat):Int)*((4:Nat):Int))≤140737488355328))))) (Te N c b false d (fun ak=>(q1 0 (wrap .i64 (ak - 1)) (List.replicate b (.int .u32 0)) []))) none)
def Hx (r0:Nat→Nat→Bool→LA→LA→O R) (c:LA) (b:Nat) (e d:Bool) (f:Nat) (g:LA):O R:=(O0 N r0 c b e d f g (fun m i l o=>(Cu N r0 c b e d f g N m i l o)))
def Qk (r0:Nat→Nat→Bool→LA→LA→O R) (q0:Nat→LA→O R) (c:LA) (b:Nat) (e d:Bool) (r:LA) (s:Nat) (u t:Bool):O R :=
 (Bz N r s false t (fun f g=>(cond (((f:Nat):Int)==0) (r0 0 0 false [] []) (Ih N c b false d (fun y al=>(Ih N (g.take (f*1)) f false true (fun v am=>(cond (al==true) (cond (cond true am false) (cond (v==0) none (C0 N (wrap .u64 (Int.tdiv y v)) (fun an ao=>(cond (v==0) none (C0 N (Int.tmod y v) (fun ap aq=>(r0 an ap true ao aq))))))) (q0 f g)) (q0 f g)))))))))
def Ik:=(Ak (fun (N:Nat) (c:LA) (b:Nat) (e d:Bool) (r:LA) (s:Nat) (u t:Bool) (r0:Nat→Nat→Bool→LA→LA→O R)=>(Qk N r0 (fun f g=>(Hx N r0 c b e d f g)) c b e d r s u t))).1
theorem Ys (c b e d r s u t r0):(@Ik R N c b e d r s u t r0)=(Qk N r0 (fun f g=>(Hx N r0 c b e d f g)) c b e d r s u t):=by rw[Ik,(Ak _).2]
def DA:Hints:={ H:=(hS hL (hS hL (hS hL (hS hL (hJ [0,1,5] hL (hS hL (hS (hS hL (hS (hP [0,1,4,5,11] (hS hL (hS (hS (hS hL (hJ [0,1,4,5,11] hL hL)) hL) hL))) hL)) hL))))))),nils:=[(4,1),(5,1)],modes:=[(2,1),(2,1),(0,0)] }
def HP:Ke:=[(105,Dr N),(115,aR N),(85,Qd N),(116,fu N),(106,VA N),(117,jE N),(107,VR N)]
def Rv (F:KF R):=Rt Try.f102 DA (HP N) [] N F
def Cv (F:KF R):Nat→Nat→Bool→LA→LA→O R:=(fun ar au av aw ax=>F (.tup [(.own 300000 0 ar),(.own 300001 0 au),(.bool av)]) (hq [(bQ 1 aw),(bQ 1 ax)]))
def aV (c:LA) (b:Nat) (e d:Bool) (f:Nat) (i:Int) (g l:LA) (p:Nat) (q:LA):St:=⟨[(0,(.imm c b 1 e d)),(1,(.own 300000 0 f)),(4,(.own 300001 0 b)),(5,(.own 300002 0 p)),(11,(iv i))],(hq [(bQ 1 g),(bQ 1 l),(bQ 1 q)])⟩
def aW (F:KF R) (Q1:St→O R):=Rv N F [1,1,1,1,1,1,0,1,0,0,1,0,0,1,1] [Q1]
def DB (c:LA) (b:Nat) (e d:Bool) (f:Nat) (g:LA) (m:Nat) (i:Int) (l o:LA):St:=⟨[(0,(.imm c b 1 e d)),(1,(.own 300000 0 f)),(4,(.own 300001 0 b)),(5,(.own 300002 0 m)),(11,(iv i))],(hq [(bQ 1 g),(bQ 1 l),(bQ 1 o)])⟩
def DC (F:KF R):=Rv N F [1,1,1,1,1,1,0,1,0] []
def aX (c:LA) (b:Nat) (e d:Bool) (f:Nat) (g:LA):St:=⟨[(0,(.imm c b 1 e d)),(1,(.own 300000 0 f)),(5,(.own 300001 0 0))],(hq [(bQ 1 g),(bQ 1 [])])⟩
def aY (F:KF R):=Rv N F [1,1,1,1,1] []
theorem LH (Q1:St→O R) (F:KF R) (c:LA) (b:Nat) (e d:Bool) (f:Nat) (i:Int) (g l:LA):∀ (p:Nat) (q:LA),Rs (aW N F Q1) (aV c b e d f i g l p q)=(F1 N (fun m i l o=>Q1 (DB c b e d f g m i l o)) (Cv F) c b e d f i g l p q):=by
 intro p q
 kernel_rfl
theorem Tf (F:KF R) (c:LA) (b:Nat) (e d:Bool) (f:Nat) (g:LA):∀ (n m:Nat) (i:Int) (l o:LA),Aj (DC N F) n (DB c b e d f g m i l o)=(Cu N (Cv F) c b e d f g n m i l o)
 | 0,_,_,_,_=>by kernel_rfl
 | n+1,m,i,l,o=>have e0:=(funext fun m=>funext fun i=>funext fun l=>funext fun o=>(Tf F c b e d f g n m i l o))
  Eq.trans (by kernel_rfl) (bz (Jp N (Cv F) c b e d f g · · m i l o) e0 (funext fun p=>funext fun q=>(Hf ..).trans ((LH N (Aj (DC N F) n) F c b e d f i g l p q).trans (Dc (F1 N · (Cv F) c b e d f i g l p q) e0))):_)
theorem LI (F:KF R) (c:LA) (b:Nat) (e d:Bool) (f:Nat) (g:LA):Rs (aY N F) (aX c b e d f g)=(Hx N (Cv F) c b e d f g):=by
 exact Eq.trans (by kernel_rfl) (Dc (O0 N (Cv F) c b e d f g ·) (funext fun m=>funext fun i=>funext fun l=>funext fun o=>(Ah ..).trans (Tf N F c b e d f g N m i l o)):_)
theorem DD (c:LA) (b:Nat) (e d:Bool) (r:LA) (s:Nat) (u t:Bool) (F:KF R):Ga (HP N) DA N 102 [(.imm c b 1 e d),(.imm r s 1 u t)] [] F=(Ik N c b e d r s u t (Cv F)):=by
 rw[Ys]
 exact Eq.trans (by kernel_rfl) (Dc (Qk N (Cv F) · c b e d r s u t) (funext fun f=>funext fun g=>(Hf ..).trans (LI N F c b e d f g)):_)
def Yt (a:LA) (h:Ag) (k:KF R):O R :=
 match a,h with
 | [(.imm c b 1 e d),(.imm r s 1 u t)],[]=>(Ik N c b e d r s u t (Cv k))
 | _,_=>none
theorem DE:At N 102 @Yt:=by
 intro R Q a h k j;unfold Yt;split;exact Bg (DD ..) (DD ..) ⟨Ds N,aS N,Qe N,fv N,VB N,jF N,VS N,trivial⟩;exact Bi
def DF:=Bf (DE N)
def DG:=Gi (DE N)
def Iy (r0:Nat→LA→O R) (k0:Nat→Nat→LA→LA→O R) (c b:Nat) (d e:LA):O R :=
 (cond (decide (((b:Nat):Int)>0)) (Ik N (d.take (c*1)) c false true (e.take (b*1)) b false true (fun z r aa ab s=>(k0 b r e s))) (r0 c d))
def Cg (r0:Nat→LA→O R):Nat→Nat→Nat→LA→LA→O R
 | 0,_,_,_,_=>none
 | n+1,c,b,d,e=>(Iy N r0 (Cg r0 n) c b d e)
def HQ (r0:Nat→LA→O R) (q0:Nat→Nat→LA→LA→O R) (f:LA) (g:Nat) (p i:Bool) (l:LA) (m:Nat) (q o:Bool):O R :=
 (Bz N f g false i (fun t u=>(Bz N l m false o (fun v w=>(q0 t v u w)))))
def BH:=(Ak (fun (N:Nat) (f:LA) (g:Nat) (p i:Bool) (l:LA) (m:Nat) (q o:Bool) (r0:Nat→LA→O R)=>(HQ N r0 (fun c b d e=>(Cg N r0 N c b d e)) f g p i l m q o))).1
theorem OD (f g p i l m q o r0):(@BH R N f g p i l m q o r0)=(HQ N r0 (fun c b d e=>(Cg N r0 N c b d e)) f g p i l m q o):=by rw[BH,(Ak _).2]
def VT:Hints:={ H:=(hS hL (hS hL (hS (hS (hP [0,1] hL) hL) hL))),nils:=[(4,1)],modes:=[(2,1)] }
def cF:Ke:=[(105,Dr N),(102,DF N)]
def jI (F:KF R):=Rt Try.f101 VT (cF N) [] N F
def O1 (F:KF R):Nat→LA→O R:=(fun x y=>F (.own 300000 0 x) (hq [(bQ 1 y)]))
def jJ (c b:Nat) (d e:LA):St:=⟨[(0,(.own 300000 0 c)),(1,(.own 300001 0 b))],(hq [(bQ 1 d),(bQ 1 e)])⟩
def jK (F:KF R):=jI N F [1,1,0,0] []
theorem DH (F:KF R):∀ (n:Nat) (c b:Nat) (d e:LA),Aj (jK N F) n (jJ c b d e)=(Cg N (O1 F) n c b d e)
 | 0,_,_,_,_=>by kernel_rfl
 | n+1,c,b,d,e=>Eq.trans (by kernel_rfl) (Dc (Iy N (O1 F) · c b d e) (funext fun c=>funext fun b=>funext fun d=>funext fun e=>(DH F n c b d e)):_)
theorem VU (f:LA) (g:Nat) (p i:Bool) (l:LA) (m:Nat) (q o:Bool) (F:KF R):Ga (cF N) VT N 101 [(.imm f g 1 p i),(.imm l m 1 q o)] [] F=(BH N f g p i l m q o (O1 F)):=by
 rw[OD]
 exact Eq.trans (by kernel_rfl) (Dc (HQ N (O1 F) · f g p i l m q o) (funext fun c=>funext fun b=>funext fun d=>funext fun e=>(Ah ..).trans (DH N F N c b d e)):_)
def OE (a:LA) (h:Ag) (k:KF R):O R :=
 match a,h with
 | [(.imm f g 1 p i),(.imm l m 1 q o)],[]=>(BH N f g p i l m q o (O1 k))
 | _,_=>none
theorem VV:At N 101 @OE:=by
 intro R Q a h k j;unfold OE;split;exact Bg (VU ..) (VU ..) ⟨Ds N,DG N,trivial⟩;exact Bi
def jL:=Bf (VV N)
def jM:=Gi (VV N)
def VW (b:LA) (c:Bool) (d:LA) (e:Bool) (r0:LA→O R):O R :=
 (Gk 1 (b.drop 1) fun i l=>(Gk 1 (d.drop 1) fun m n=>(BH N i l false c m n false e (fun g o=>(Dh N false (o.take (g*1)) g false true (fun f=>(cond ((Nat.beq 0 0)&&((Nat.beq (f.length) 2)&&(Nat.beq 2 2))) (cond (Nat.ble 2 (f.length)) (r0 (f.take 2)) none) none)))))))
def HR:=(Ak (@VW R)).1
theorem OF:@HR R=@VW R:=(Ak _).2
def ln:Ke:=[(101,jL N),(84,E9 N)]
def VX (F:KF R):LA→O R:=(fun p=>F (.pagg p false) [])
theorem VY (b:LA) (c:Bool) (d:LA) (e:Bool) (F:KF R):Ga (ln N) Oo N 81 [(.pagg b c),(.pagg d e)] [] F=(HR N b c d e (VX F)):=by
 rw[OF]
 kernel_rfl
def OG (a:LA) (h:Ag) (k:KF R):O R :=
 match a,h with
 | [(.pagg b c),(.pagg d e)],[]=>(HR N b c d e (VX k))
 | _,_=>none
theorem VZ:At N 81 @OG:=by
 intro R Q a h k j;unfold OG;split;exact Bg (VY ..) (VY ..) ⟨jM N,Fa N,trivial⟩;exact Bi
def jN:=Bf (VZ N)
def jO:=Gi (VZ N)
def fw (b:LA) (c:Bool) (r0:LA→O R):O R :=
 (Gk 1 (b.drop 1) fun e f=>(Dh N false e f false c (fun d=>(cond ((Nat.beq 0 0)&&((Nat.beq (d.length) 2)&&(Nat.beq 2 2))) (cond (Nat.ble 2 (d.length)) (r0 (d.take 2)) none) none))))
def SM:=(Ak (@fw R)).1
theorem fx:@SM R=@fw R:=(Ak _).2
def lp:Ke:=[(84,E9 N)]
def V_ (F:KF R):LA→O R:=(fun g=>F (.pagg g false) [])
theorem V' (b:LA) (c:Bool) (F:KF R):Ga (lp N) Oo N 103 [(.pagg b c)] [] F=(SM N b c (V_ F)):=by
 rw[fx]
 kernel_rfl
def OH (a:LA) (h:Ag) (k:KF R):O R :=
 match a,h with
 | [(.pagg b c)],[]=>(SM N b c (V_ k))
 | _,_=>none
theorem WA:At N 103 @OH:=by
 intro R Q a h k j;unfold OH;split;exact Bg (V' ..) (V' ..) ⟨Fa N,trivial⟩;exact Bi
def jP:=Bf (WA N)
def jQ:=Gi (WA N)
def WB (b:LA) (d:Bool) (c:LA) (e:Bool) (r0:LA→O R):O R :=
 (NB b fun o=>(NB c fun p=>(cond (o==p) (NB b fun q=>(Gk 1 (b.drop 1) fun r s=>(Gk 1 (c.drop 1) fun t u=>(Qg N r s false d t u false e (fun l v=>(Dh N q (v.take (l*1)) l false true (fun f=>(cond ((Nat.beq 0 0)&&((Nat.beq (f.length) 2)&&(Nat.beq 2 2))) (cond (Nat.ble 2 (f.length)) (r0 (f.take 2)) none) none)))))))) (Gk 1 (b.drop 1) fun w x=>(Gk 1 (c.drop 1) fun y z=>(Qj N w x false d y z false e (fun m aa ab=>(cond aa (NB b fun ac=>(Dh N ac (ab.take (m*1)) m false true (fun g=>(cond ((Nat.beq 0 0)&&((Nat.beq (g.length) 2)&&(Nat.beq 2 2))) (cond (Nat.ble 2 (g.length)) (r0 (g.take 2)) none) none)))) (Gk 1 (c.drop 1) fun ad ae=>(Gk 1 (b.drop 1) fun af ag=>(Qj N ad ae false e af ag false d (fun n ak ah=>(NB c fun ai=>(Dh N ai (ah.take (n*1)) n false true (fun i=>(cond ((Nat.beq 0 0)&&((Nat.beq (i.length) 2)&&(Nat.beq 2 2))) (cond (Nat.ble 2 (i.length)) (r0 (i.take 2)) none) none))))))))))))))))
def Nr:=(Ak (@WB R)).1
theorem OI:@Nr R=@WB R:=(Ak _).2
def lq:Ke:=[(106,VA N),(84,E9 N),(107,VR N)]
def WC (F:KF R):LA→O R:=(fun aj=>F (.pagg aj false) [])
theorem WD (b:LA) (d:Bool) (c:LA) (e:Bool) (F:KF R):Ga (lq N) Oo N 86 [(.pagg b d),(.pagg c e)] [] F=(Nr N b d c e (WC F)):=by
 rw[OI]
 kernel_rfl
def OJ (a:LA) (h:Ag) (k:KF R):O R :=
 match a,h with
 | [(.pagg b d),(.pagg c e)],[]=>(Nr N b d c e (WC k))
 | _,_=>none
theorem WE:At N 86 @OJ:=by
 intro R Q a h k j;unfold OJ;split;exact Bg (WD ..) (WD ..) ⟨VB N,Fa N,VS N,trivial⟩;exact Bi
def FF:=Bf (WE N)
def FG:=Gi (WE N)
def Va (b:Int) (r0:LA→O R):O R :=
 (cond (decide (b<0)) (C0 N (wrap .u64 ((wrap .u64 (wrap .i64 ((0:Int) - (wrap .i64 (b+1)))))+1)) (fun e g=>(Dh N true (g.take (e*1)) e false true (fun c=>(cond ((Nat.beq 0 0)&&((Nat.beq (c.length) 2)&&(Nat.beq 2 2))) (cond (Nat.ble 2 (c.length)) (r0 (c.take 2)) none) none))))) (C0 N (wrap .u64 b) (fun f i=>(Dh N false (i.take (f*1)) f false true (fun d=>(cond ((Nat.beq 0 0)&&((Nat.beq (d.length) 2)&&(Nat.beq 2 2))) (cond (Nat.ble 2 (d.length)) (r0 (d.take 2)) none) none))))))
def Fc:=(Ak (@Va R)).1
theorem Wl:@Fc R=@Va R:=(Ak _).2
def aZ:Ke:=[(85,Qd N),(84,E9 N)]
def Yu (F:KF R):LA→O R:=(fun l=>F (.pagg l false) [])
theorem Yv (b:Int) (F:KF R):Ga (aZ N) Oo N 71 [(iv b)] [] F=(Fc N b (Yu F)):=by
 rw[Wl]
 kernel_rfl
def Wm (a:LA) (h:Ag) (k:KF R):O R :=
 match a,h with
 | [(.int .i64 b)],[]=>(Fc N b (Yu k))
 | _,_=>none
theorem Yw:At N 71 @Wm:=by
 intro R Q a h k j;unfold Wm;split;exact Bg (Yv ..) (Yv ..) ⟨Qe N,Fa N,trivial⟩;exact Bi
def Yx:=Bf (Yw N)
def Yy:=Gi (Yw N)
def fy (b:LA) (c:Bool) (r0:LA→O R):O R :=
 (NB b fun e=>(Gk 1 (b.drop 1) fun f g=>(Dh N (!e) f g false c (fun d=>(cond ((Nat.beq 0 0)&&((Nat.beq (d.length) 2)&&(Nat.beq 2 2))) (cond (Nat.ble 2 (d.length)) (r0 (d.take 2)) none) none)))))
def BI:=(Ak (@fy R)).1
theorem gA:@BI R=@fy R:=(Ak _).2
def ls:Ke:=[(84,E9 N)]
def WF (F:KF R):LA→O R:=(fun i=>F (.pagg i false) [])
theorem WG (b:LA) (c:Bool) (F:KF R):Ga (ls N) Oo N 83 [(.pagg b c)] [] F=(BI N b c (WF F)):=by
 rw[gA]
 kernel_rfl
def OK (a:LA) (h:Ag) (k:KF R):O R :=
 match a,h with
 | [(.pagg b c)],[]=>(BI N b c (WF k))
 | _,_=>none
theorem WH:At N 83 @OK:=by
 intro R Q a h k j;unfold OK;split;exact Bg (WG ..) (WG ..) ⟨Fa N,trivial⟩;exact Bi
def WI:=Bf (WH N)
def WJ:=Gi (WH N)
def gB (b:LA) (d:Bool) (c:LA) (e:Bool) (r0:LA→O R):O R :=
 (cond (Nat.ble 2 (b.length)) (cond (Nat.ble 2 (c.length)) (BI N (c.take 2) e (fun g=>(Nr N (b.take 2) d g false (fun f=>(cond ((Nat.beq 0 0)&&((Nat.beq (f.length) 2)&&(Nat.beq 2 2))) (cond (Nat.ble 2 (f.length)) (r0 (f.take 2)) none) none))))) none) none)
def SN:=(Ak (@gB R)).1
theorem gC:@SN R=@gB R:=(Ak _).2
def lu:Ke:=[(83,WI N),(86,FF N)]
def WK (F:KF R):LA→O R:=(fun i=>F (.pagg i false) [])
theorem WL (b:LA) (d:Bool) (c:LA) (e:Bool) (F:KF R):Ga (lu N) Oo N 104 [(.pagg b d),(.pagg c e)] [] F=(SN N b d c e (WK F)):=by
 rw[gC]
 kernel_rfl
def OL (a:LA) (h:Ag) (k:KF R):O R :=
 match a,h with
 | [(.pagg b d),(.pagg c e)],[]=>(SN N b d c e (WK k))
 | _,_=>none
theorem WM:At N 104 @OL:=by
 intro R Q a h k j;unfold OL;split;exact Bg (WL ..) (WL ..) ⟨WJ N,FG N,trivial⟩;exact Bi
def jR:=Bf (WM N)
def jS:=Gi (WM N)
def Yz (f:LA) (m:Bool) (e:LA) (l:Bool) (r0:LA→LA→Bool→O R):O R :=
 (Gk 1 (f.drop 1) fun p q=>(Gk 1 (e.drop 1) fun r s=>(Ik N p q false m r s false l (fun n o t u v=>(cond (!t) (r0 [(.bool false),.nsl] [(.bool false),.nsl] false) (NB f fun w=>(NB e fun x=>(Dh N (!(w==x)) (u.take (n*1)) n false true (fun b=>(NB f fun y=>(Dh N y (v.take (o*1)) o false true (fun c=>(cond ((Nat.beq 0 0)&&((Nat.beq (b.length) 2)&&(Nat.beq 2 2))) (cond ((Nat.beq 0 0)&&((Nat.beq (c.length) 2)&&(Nat.beq 2 2))) (NB c fun z=>(cond z (cond (Nat.ble 2 (c.length)) (cond (Nat.ble 2 (e.length)) (SM N (e.take 2) l (fun aa=>(Nr N (c.take 2) false aa false (fun d=>(cond ((Nat.beq (d.length) 2)&&((Nat.ble 2 (c.length))&&(!false))) (NB e fun ab=>(cond ab (cond (Nat.ble 2 (b.length)) (Fc N 1 (fun ac=>(Nr N (b.take 2) false ac false (fun g=>(cond ((Nat.beq (g.length) 2)&&((Nat.ble 2 (b.length))&&(!false))) (cond (Nat.ble 2 ((setCells b 0 g).length)) (cond (Nat.ble 2 ((setCells c 0 d).length)) (cond ((Nat.beq (((setCells b 0 g).take 2).length) 2)&&((Nat.ble 2 ((setCells b 0 g).length))&&(!false))) (cond ((Nat.beq (((setCells c 0 d).take 2).length) 2)&&((Nat.ble 2 ((setCells c 0 d).length))&&(!false))) (cond (Nat.ble 2 ((setCells (setCells b 0 g) 0 ((setCells b 0 g).take 2)).length)) (cond (Nat.ble 2 ((setCells (setCells c 0 d) 0 ((setCells c 0 d).take 2)).length)) (r0 ((setCells (setCells b 0 g) 0 ((setCells b 0 g).take 2)).take 2) ((setCells (setCells c 0 d) 0 ((setCells c 0 d).take 2)).take 2) true) none) none) none) none) none) none) none))))) none) (cond (Nat.ble 2 (b.length)) (Fc N 1 (fun ad=>(SN N (b.take 2) false ad false (fun i=>(cond ((Nat.beq (i.length) 2)&&((Nat.ble 2 (b.length))&&(!false))) (cond (Nat.ble 2 ((setCells b 0 i).length)) (cond (Nat.ble 2 ((setCells c 0 d).length)) (cond ((Nat.beq (((setCells b 0 i).take 2).length) 2)&&((Nat.ble 2 ((setCells b 0 i).length))&&(!false))) (cond ((Nat.beq (((setCells c 0 d).take 2).length) 2)&&((Nat.ble 2 ((setCells c 0 d).length))&&(!false))) (cond (Nat.ble 2 ((setCells (setCells b 0 i) 0 ((setCells b 0 i).take 2)).length)) (cond (Nat.ble 2 ((setCells (setCells c 0 d) 0 ((setCells c 0 d).take 2)).length)) (r0 ((setCells (setCells b 0 i) 0 ((setCells b 0 i).take 2)).take 2) ((setCells (setCells c 0 d) 0 ((setCells c 0 d).take 2)).take 2) true) none) none) none) none) none) none) none))))) none))) none))))) none) none) (cond (Nat.ble 2 (b.length)) (cond (Nat.ble 2 (c.length)) (cond ((Nat.beq ((b.take 2).length) 2)&&((Nat.ble 2 (b.length))&&(!false))) (cond ((Nat.beq ((c.take 2).length) 2)&&((Nat.ble 2 (c.length))&&(!false))) (cond (Nat.ble 2 ((setCells b 0 (b.take 2)).length)) (cond (Nat.ble 2 ((setCells c 0 (c.take 2)).length)) (r0 ((setCells b 0 (b.take 2)).take 2) ((setCells c 0 (c.take 2)).take 2) true) none) none) none) none) none) none))) none) none)))))))))))))
def Kw:=(Ak (@Yz R)).1
theorem Y0:@Kw R=@Yz R:=(Ak _).2
def a_:Hints:={ H:=hL,modes:=[(3,0),(3,0),(0,0)] }
def de:Ke:=[(102,DF N),(84,E9 N),(103,jP N),(86,FF N),(71,Yx N),(104,jR N)]
def DI (F:KF R):LA→LA→Bool→O R:=(fun ae af ag=>F (.tup [(.pagg ae false),(.pagg af false),(.bool ag)]) [])
theorem DJ (f:LA) (m:Bool) (e:LA) (l:Bool) (F:KF R):Ga (de N) a_ N 82 [(.pagg f m),(.pagg e l)] [] F=(Kw N f m e l (DI F)):=by
 rw[Y0]
 kernel_rfl
def Y1 (a:LA) (h:Ag) (k:KF R):O R :=
 match a,h with
 | [(.pagg f m),(.pagg e l)],[]=>(Kw N f m e l (DI k))
 | _,_=>none
theorem DK:At N 82 @Y1:=by
 intro R Q a h k j;unfold Y1;split;exact Bg (DJ ..) (DJ ..) ⟨DG N,Fa N,jQ N,FG N,Yy N,jS N,trivial⟩;exact Bi
def bA:=Bf (DK N)
def bB:=Gi (DK N)
end
end Gx

namespace Gx
open Go Go.Proofs
open IntKind (wrap)
set_option maxRecDepth 100000
noncomputable section
variable {R:Type} (N:Nat)
def Ql (r0:LA→O R) (e:Bool) (c:LA) (d:Bool) (b:LA):O R :=
 (cond (Nat.ble 2 (c.length)) (cond (Nat.ble 2 (b.length)) (HR N (c.take 2) e (b.take 2) d (fun l=>(cond ((Nat.beq 0 0)&&((Nat.beq (l.length) 2)&&(Nat.beq 2 2))) (cond (Nat.ble 2 (c.length)) (cond (Nat.ble 2 (l.length)) (Kw N (c.take 2) e (l.take 2) false (fun f w af=>(cond ((Nat.beq 0 0)&&((Nat.beq (f.length) 2)&&(Nat.beq 2 2))) (cond ((Nat.beq 0 0)&&((Nat.beq (w.length) 2)&&(Nat.beq 2 2))) (cond (Nat.ble 2 (b.length)) (cond (Nat.ble 2 (l.length)) (Kw N (b.take 2) d (l.take 2) false (fun g x ag=>(cond ((Nat.beq 0 0)&&((Nat.beq (g.length) 2)&&(Nat.beq 2 2))) (cond ((Nat.beq 0 0)&&((Nat.beq (x.length) 2)&&(Nat.beq 2 2))) (NB g fun y=>(cond y (cond (Nat.ble 2 (f.length)) (BI N (f.take 2) false (fun i=>(cond (Nat.ble 2 (g.length)) (BI N (g.take 2) false (fun v=>(cond ((Nat.beq (i.length) 2)&&((Nat.ble 2 (f.length))&&(!false))) (cond ((Nat.beq (v.length) 2)&&((Nat.ble 2 (g.length))&&(!false))) (cond (Nat.ble 2 ((setCells f 0 i).length)) (Gk 1 ((setCells g 0 v).drop 1) fun o p=>(cond ((Nat.beq (((setCells f 0 i).take 2).length) 2)&&(Nat.ble 2 3)) (cond ((Nat.beq 1 1)&&(Nat.ble 3 ((setCells [(.bool false),.nsl,.nsl] 0 ((setCells f 0 i).take 2)).length))) (cond ((Nat.beq 0 0)&&((Nat.beq (((setCells [(.bool false),.nsl,.nsl] 0 ((setCells f 0 i).take 2)).set 2 (.imm o p 1 false false)).length) 3)&&(Nat.beq 3 3))) (cond (Nat.ble 3 (((setCells [(.bool false),.nsl,.nsl] 0 ((setCells f 0 i).take 2)).set 2 (.imm o p 1 false false)).length)) (r0 (((setCells [(.bool false),.nsl,.nsl] 0 ((setCells f 0 i).take 2)).set 2 (.imm o p 1 false false)).take 3)) none) none) none) none)) none) none) none))) none))) none) (cond (Nat.ble 2 (f.length)) (Gk 1 (g.drop 1) fun q r=>(cond ((Nat.beq ((f.take 2).length) 2)&&(Nat.ble 2 3)) (cond ((Nat.beq 1 1)&&(Nat.ble 3 ((setCells [(.bool false),.nsl,.nsl] 0 (f.take 2)).length))) (cond ((Nat.beq 0 0)&&((Nat.beq (((setCells [(.bool false),.nsl,.nsl] 0 (f.take 2)).set 2 (.imm q r 1 false false)).length) 3)&&(Nat.beq 3 3))) (cond (Nat.ble 3 (((setCells [(.bool false),.nsl,.nsl] 0 (f.take 2)).set 2 (.imm q r 1 false false)).length)) (r0 (((setCells [(.bool false),.nsl,.nsl] 0 (f.take 2)).set 2 (.imm q r 1 false false)).take 3)) none) none) none) none)) none))) none) none))) none) none) none) none))) none) none) none))) none) none)
def BJ (r0:LA→O R) (q0:O R) (c:LA) (e:Bool) (b:LA) (d:Bool):O R :=
 (cond (Nat.ble 2 (b.length)) (Ov N (b.take 2) d (fun z=>(cond (z==0) (Ot N (fun s=>(cond ((Nat.beq 0 0)&&((Nat.beq (s.length) 3)&&(Nat.beq 3 3))) (cond (Nat.ble 3 (s.length)) (r0 (s.take 3)) none) none))) (cond (Nat.ble 2 (b.length)) (Ou N (b.take 2) d (fun n=>(cond ((Nat.beq 0 0)&&((Nat.beq (n.length) 2)&&(Nat.beq 2 2))) (NB n fun aa=>(cond ((!aa)==true) (Gk 1 (n.drop 1) fun ab ac=>(N7 N ab ac false false [(.int .u32 1)] 1 false true (fun ad=>(cond (cond true ad false) (cond (Nat.ble 2 (c.length)) (Ou N (c.take 2) e (fun m=>(Gk 1 (n.drop 1) fun t u=>(cond ((Nat.beq (m.length) 2)&&(Nat.ble 2 3)) (cond ((Nat.beq 1 1)&&(Nat.ble 3 ((setCells [(.bool false),.nsl,.nsl] 0 m).length))) (cond ((Nat.beq 0 0)&&((Nat.beq (((setCells [(.bool false),.nsl,.nsl] 0 m).set 2 (.imm t u 1 false false)).length) 3)&&(Nat.beq 3 3))) (cond (Nat.ble 3 (((setCells [(.bool false),.nsl,.nsl] 0 m).set 2 (.imm t u 1 false false)).length)) (r0 (((setCells [(.bool false),.nsl,.nsl] 0 m).set 2 (.imm t u 1 false false)).take 3)) none) none) none) none)))) none) q0)))) q0)) none))) none)))) none)
def Jq:=(Ak (fun (N:Nat) (c:LA) (e:Bool) (b:LA) (d:Bool) (r0:LA→O R)=>(BJ N r0 (Ql N r0 e c d b) c e b d))).1
theorem HS (c e b d r0):(@Jq R N c e b d r0)=(BJ N r0 (Ql N r0 e c d b) c e b d):=by rw[Jq,(Ak _).2]
def OM:Hints:={ H:=(hS hL (hS hL (hJ [2,3,4] hL hL))),modes:=[(3,0)] }
def WN:Ke:=[(64,NT N),(42,Yj N),(76,NO N),(80,dc N),(81,jN N),(82,bA N),(83,WI N)]
def gD (F:KF R):=Rt Try.f70 OM (WN N) [] N F
def Qm (F:KF R):LA→O R:=(fun ae=>F (.pagg ae false) [])
def gE (e:Bool) (c:LA) (d:Bool) (b:LA):St:=⟨[(2,(op 0)),(3,(op 1)),(4,(op 2))],(hq [(bP e 0 c),(bP d 0 b),(bN 0 [(.bool false),.nsl,.nsl])])⟩
def gF (F:KF R):=gD N F [1,1,1] []
theorem WO (F:KF R) (e:Bool) (c:LA) (d:Bool) (b:LA):Rs (gF N F) (gE e c d b)=(Ql N (Qm F) e c d b):=by
 kernel_rfl
theorem ON (c:LA) (e:Bool) (b:LA) (d:Bool) (F:KF R):Ga (WN N) OM N 70 [(.pagg c e),(.pagg b d)] [] F=(Jq N c e b d (Qm F)):=by
 rw[HS]
 exact Eq.trans (by kernel_rfl) (Dc (BJ N (Qm F) · c e b d) ((Hf ..).trans (WO N F e c d b)):_)
def HT (a:LA) (h:Ag) (k:KF R):O R :=
 match a,h with
 | [(.pagg c e),(.pagg b d)],[]=>(Jq N c e b d (Qm k))
 | _,_=>none
theorem OO:At N 70 @HT:=by
 intro R Q a h k j;unfold HT;split;exact Bg (ON ..) (ON ..) ⟨NU N,Yk N,NP N,dd N,jO N,bB N,WJ N,trivial⟩;exact Bi
def Y2:=Bf (OO N)
def Y3:=Gi (OO N)
def LJ (b:LA) (c:Bool) (r0:LA→O R):O R :=
 (cond (Nat.ble 2 (b.length)) (Gk 1 (b.drop 2) fun e f=>(Jq N (b.take 2) c [(.bool false),(.imm e f 1 false c)] (c||false) (fun d=>(cond ((Nat.beq 0 0)&&((Nat.beq (d.length) 3)&&(Nat.beq 3 3))) (cond (Nat.ble 3 (d.length)) (r0 (d.take 3)) none) none)))) none)
def Lw:=(Ak (@LJ R)).1
theorem HU:@Lw R=@LJ R:=(Ak _).2
def jT:Ke:=[(70,Y2 N)]
def OP (F:KF R):LA→O R:=(fun g=>F (.pagg g false) [])
theorem OQ (b:LA) (c:Bool) (F:KF R):Ga (jT N) Oo N 65 [(.pagg b c)] [] F=(Lw N b c (OP F)):=by
 rw[HU]
 kernel_rfl
def HV (a:LA) (h:Ag) (k:KF R):O R :=
 match a,h with
 | [(.pagg b c)],[]=>(Lw N b c (OP k))
 | _,_=>none
theorem OR:At N 65 @HV:=by
 intro R Q a h k j;unfold HV;split;exact Bg (OQ ..) (OQ ..) ⟨Y3 N,trivial⟩;exact Bi
def Y4:=Bf (OR N)
def Y5:=Gi (OR N)
def WP (b:LA) (c:Bool) (r0:LA→O R):O R :=
 (cond (Nat.ble 3 (b.length)) (Lw N (b.take 3) c (fun d=>(Gk 1 (d.drop 2) fun e f=>(r0 [(.bool false),(.imm e f 1 false false)])))) none)
def Qn:=(Ak (@WP R)).1
theorem OS:@Qn R=@WP R:=(Ak _).2
def ly:Ke:=[(65,Y4 N)]
def WQ (F:KF R):LA→O R:=(fun g=>F (.pagg g false) [])
theorem WR (b:LA) (c:Bool) (F:KF R):Ga (ly N) Oo N 88 [(.pagg b c)] [] F=(Qn N b c (WQ F)):=by
 rw[OS]
 kernel_rfl
def OT (a:LA) (h:Ag) (k:KF R):O R :=
 match a,h with
 | [(.pagg b c)],[]=>(Qn N b c (WQ k))
 | _,_=>none
theorem WS:At N 88 @OT:=by
 intro R Q a h k j;unfold OT;split;exact Bg (WR ..) (WR ..) ⟨Y5 N,trivial⟩;exact Bi
def jU:=Bf (WS N)
def jV:=Gi (WS N)
def Qo (N:Nat) (k0:Nat→Int→LA→O R) (r0:Nat→LA→O R) (d:LA) (c:Nat) (f g:Bool) (e:LA) (b:Nat) (i l:Bool) (m:Nat) (k1:Int→Int→Int→LA→O R) (o t p:Int) (s:LA):O R :=
 (cond (decide (p<((b:Nat):Int))) (cond (Af (wrap .i64 (o+p)) m) (Ch .u32 (s.drop (0+(((wrap .i64 (o+p)).toNat)*1))) fun u=>(cond (Af o c) (Ch .u32 (d.drop ((o.toNat)*1)) fun v=>(cond (Af p b) (Ch .u32 (e.drop ((p.toNat)*1)) fun w=>(cond (Af (wrap .i64 (o+p)) m) (cond ((Nat.beq 1 1)&&((Nat.ble ((0+(((wrap .i64 (o+p)).toNat)*1))+1) (s.length))&&(!false))) (k1 o (Int.fdiv (wrap .u64 (t+(wrap .u64 ((wrap .u64 u)+(wrap .u64 ((wrap .u64 v)*(wrap .u64 w))))))) (2 ^ 32)) (wrap .i64 (p+1)) (s.set (0+(((wrap .i64 (o+p)).toNat)*1)) (.int .u32 (wrap .u32 (wrap .u64 (t+(wrap .u64 ((wrap .u64 u)+(wrap .u64 ((wrap .u64 v)*(wrap .u64 w))))))))))) none) none)) none)) none)) none) (cond (Af (wrap .i64 (o+((b:Nat):Int))) m) (cond ((Nat.beq 1 1)&&((Nat.ble ((0+(((wrap .i64 (o+((b:Nat):Int))).toNat)*1))+1) (s.length))&&(!false))) (k0 m (wrap .i64 (o+1)) (s.set (0+(((wrap .i64 (o+((b:Nat):Int))).toNat)*1)) (.int .u32 (wrap .u32 t)))) none) none))
def Il (k0:Nat→Int→LA→O R) (r0:Nat→LA→O R) (d:LA) (c:Nat) (f g:Bool) (e:LA) (b:Nat) (i l:Bool) (m:Nat):Nat→Int→Int→Int→LA→O R
 | 0,_,_,_,_=>none
 | n+1,o,t,p,s=>(Qo N k0 r0 d c f g e b i l m (Il k0 r0 d c f g e b i l m n) o t p s)
def Qq (r0:Nat→LA→O R) (d:LA) (c:Nat) (f g:Bool) (e:LA) (b:Nat) (i l:Bool) (k0:Nat→Int→LA→O R) (q1:Int→Int→Int→LA→O R) (m:Nat) (q:Int) (r:LA):O R :=
 (cond (decide (q<((c:Nat):Int))) (q1 q 0 0 r) (Bz N (r.take (m*1)) m false true (fun x y=>(r0 x y))))
def Fi (r0:Nat→LA→O R) (d:LA) (c:Nat) (f g:Bool) (e:LA) (b:Nat) (i l:Bool):Nat→Nat→Int→LA→O R
 | 0,_,_,_=>none
 | n+1,m,q,r=>(Qq N r0 d c f g e b i l (Fi r0 d c f g e b i l n) (fun o t p s=>(Il N (Fi r0 d c f g e b i l n) r0 d c f g e b i l m N o t p s)) m q r)
def HW (N:Nat) (r0:Nat→LA→O R) (q0:Nat→Int→LA→O R) (d:LA) (c:Nat) (f g:Bool) (e:LA) (b:Nat) (i l:Bool):O R :=
 (cond ((decide (0≤(wrap .i64 (((c:Nat):Int)+((b:Nat):Int)))))&&((decide ((wrap .i64 (((c:Nat):Int)+((b:Nat):Int)))≤(wrap .i64 (((c:Nat):Int)+((b:Nat):Int)))))&&((decide ((wrap .i64 (((c:Nat):Int)+((b:Nat):Int)))≤140737488355328))&&(decide (((wrap .i64 (((c:Nat):Int)+((b:Nat):Int)))*((4:Nat):Int))≤140737488355328))))) (q0 ((wrap .i64 (((c:Nat):Int)+((b:Nat):Int))).toNat) 0 (List.replicate ((wrap .i64 (((c:Nat):Int)+((b:Nat):Int))).toNat) (.int .u32 0))) none)
def BK:=(Ak (fun (N:Nat) (d:LA) (c:Nat) (f g:Bool) (e:LA) (b:Nat) (i l:Bool) (r0:Nat→LA→O R)=>(HW N r0 (fun m q r=>(Fi N r0 d c f g e b i l N m q r)) d c f g e b i l))).1
theorem OU (d c f g e b i l r0):(@BK R N d c f g e b i l r0)=(HW N r0 (fun m q r=>(Fi N r0 d c f g e b i l N m q r)) d c f g e b i l):=by rw[BK,(Ak _).2]
def WT:Hints:={ H:=(hS hL (hS hL (hS (hS hL (hS (hP [0,1,5,6] (hS hL (hS (hS (hS hL (hS (hS hL (hS (hP [0,1,5,6,7,8] hL) hL)) hL)) hL) hL))) hL)) hL))),nils:=[(4,1)],modes:=[(2,1)] }
def cG:Ke:=[(105,Dr N)]
def WU (F:KF R):=Rt Try.f108 WT (cG N) [] N F
def Gn (F:KF R):Nat→LA→O R:=(fun z aa=>F (.own 300000 0 z) (hq [(bQ 1 aa)]))
def jW (d:LA) (c:Nat) (f g:Bool) (e:LA) (b:Nat) (i l:Bool) (m:Nat) (o t p:Int) (s:LA):St:=⟨[(0,(.imm d c 1 f g)),(1,(.imm e b 1 i l)),(5,(.own 300000 0 m)),(6,(iv o)),(7,(.int .u64 t)),(8,(iv p))],(hq [(bQ 1 s)])⟩
def jX (F:KF R) (Q0:St→O R):=WU N F [1,1,0,1,0,0,1,0,0,1,0,1,0] [Q0]
def FH (d:LA) (c:Nat) (f g:Bool) (e:LA) (b:Nat) (i l:Bool) (m:Nat) (q:Int) (r:LA):St:=⟨[(0,(.imm d c 1 f g)),(1,(.imm e b 1 i l)),(5,(.own 300000 0 m)),(6,(iv q))],(hq [(bQ 1 r)])⟩
def WV (F:KF R):=WU N F [1,1,0,1,0] []
theorem DL (Q0:St→O R) (F:KF R) (d:LA) (c:Nat) (f g:Bool) (e:LA) (b:Nat) (i l:Bool) (m:Nat):∀ (n:Nat) (o t p:Int) (s:LA),Aj (jX N F Q0) n (jW d c f g e b i l m o t p s)=(Il N (fun m q r=>Q0 (FH d c f g e b i l m q r)) (Gn F) d c f g e b i l m n o t p s)
 | 0,_,_,_,_=>by kernel_rfl
 | n+1,o,t,p,s=>Eq.trans (by kernel_rfl) (Dc (Qo N (fun m q r=>Q0 (FH d c f g e b i l m q r)) (Gn F) d c f g e b i l m · o t p s) (funext fun o=>funext fun t=>funext fun p=>funext fun s=>(DL Q0 F d c f g e b i l m n o t p s)):_)
theorem DM (F:KF R) (d:LA) (c:Nat) (f g:Bool) (e:LA) (b:Nat) (i l:Bool):∀ (n m:Nat) (q:Int) (r:LA),Aj (WV N F) n (FH d c f g e b i l m q r)=(Fi N (Gn F) d c f g e b i l n m q r)
 | 0,_,_,_=>by kernel_rfl
 | n+1,m,q,r=>have e0:=(funext fun m=>funext fun q=>funext fun r=>(DM F d c f g e b i l n m q r))
  Eq.trans (by kernel_rfl) (bz (Qq N (Gn F) d c f g e b i l · · m q r) e0 (funext fun o=>funext fun t=>funext fun p=>funext fun s=>(Ah ..).trans ((DL N (Aj (WV N F) n) F d c f g e b i l m N o t p s).trans (Dc (Il N · (Gn F) d c f g e b i l m N o t p s) e0))):_)
theorem WW (d:LA) (c:Nat) (f g:Bool) (e:LA) (b:Nat) (i l:Bool) (F:KF R):Ga (cG N) WT N 108 [(.imm d c 1 f g),(.imm e b 1 i l)] [] F=(BK N d c f g e b i l (Gn F)):=by
 rw[OU]
 exact Eq.trans (by kernel_rfl) (Dc (HW N (Gn F) · d c f g e b i l) (funext fun m=>funext fun q=>funext fun r=>(Ah ..).trans (DM N F d c f g e b i l N m q r)):_)
def OV (a:LA) (h:Ag) (k:KF R):O R :=
 match a,h with
 | [(.imm d c 1 f g),(.imm e b 1 i l)],[]=>(BK N d c f g e b i l (Gn k))
 | _,_=>none
theorem WX:At N 108 @OV:=by
 intro R Q a h k j;unfold OV;split;exact Bg (WW ..) (WW ..) ⟨Ds N,trivial⟩;exact Bi
def jY:=Bf (WX N)
def jZ:=Gi (WX N)
def WY (b:LA) (d:Bool) (c:LA) (e:Bool) (r0:LA→O R):O R :=
 (NB b fun i=>(NB c fun l=>(Gk 1 (b.drop 1) fun m n=>(Gk 1 (c.drop 1) fun o p=>(BK N m n false d o p false e (fun g q=>(Dh N (!(i==l)) (q.take (g*1)) g false true (fun f=>(cond ((Nat.beq 0 0)&&((Nat.beq (f.length) 2)&&(Nat.beq 2 2))) (cond (Nat.ble 2 (f.length)) (r0 (f.take 2)) none) none)))))))))
def Qr:=(Ak (@WY R)).1
theorem OW:@Qr R=@WY R:=(Ak _).2
def lz:Ke:=[(108,jY N),(84,E9 N)]
def WZ (F:KF R):LA→O R:=(fun r=>F (.pagg r false) [])
theorem W_ (b:LA) (d:Bool) (c:LA) (e:Bool) (F:KF R):Ga (lz N) Oo N 87 [(.pagg b d),(.pagg c e)] [] F=(Qr N b d c e (WZ F)):=by
 rw[OW]
 kernel_rfl
def OX (a:LA) (h:Ag) (k:KF R):O R :=
 match a,h with
 | [(.pagg b d),(.pagg c e)],[]=>(Qr N b d c e (WZ k))
 | _,_=>none
theorem XA:At N 87 @OX:=by
 intro R Q a h k j;unfold OX;split;exact Bg (W_ ..) (W_ ..) ⟨jZ N,Fa N,trivial⟩;exact Bi
def j0:=Bf (XA N)
def j3:=Gi (XA N)
def XB (b:LA) (d:Bool) (c:LA) (e:Bool) (r0:LA→O R):O R :=
 (cond (Nat.ble 3 (b.length)) (Lw N (b.take 3) d (fun f=>(cond (Nat.ble 3 (c.length)) (Lw N (c.take 3) e (fun g=>(cond ((Nat.beq 0 0)&&((Nat.beq (f.length) 3)&&(Nat.beq 3 3))) (cond ((Nat.beq 0 0)&&((Nat.beq (g.length) 3)&&(Nat.beq 3 3))) (cond (Nat.ble 2 (f.length)) (cond (Nat.ble 3 (c.length)) (Qn N (c.take 3) e (fun l=>(Qr N (f.take 2) false l false (fun m=>(cond (Nat.ble 2 (g.length)) (cond (Nat.ble 3 (b.length)) (Qn N (b.take 3) d (fun n=>(Qr N (g.take 2) false n false (fun o=>(Nr N m false o false (fun p=>(cond (Nat.ble 3 (b.length)) (Qn N (b.take 3) d (fun q=>(cond (Nat.ble 3 (c.length)) (Qn N (c.take 3) e (fun r=>(Qr N q false r false (fun s=>(Jq N p false s false (fun i=>(cond ((Nat.beq 0 0)&&((Nat.beq (i.length) 3)&&(Nat.beq 3 3))) (cond (Nat.ble 3 (i.length)) (r0 (i.take 3)) none) none))))))) none))) none))))))) none) none))))) none) none) none) none))) none))) none)
def BL:=(Ak (@XB R)).1
theorem OY:@BL R=@XB R:=(Ak _).2
def mA:Ke:=[(65,Y4 N),(88,jU N),(87,j0 N),(86,FF N),(70,Y2 N)]
def XC (F:KF R):LA→O R:=(fun t=>F (.pagg t false) [])
theorem XD (b:LA) (d:Bool) (c:LA) (e:Bool) (F:KF R):Ga (mA N) Oo N 73 [(.pagg b d),(.pagg c e)] [] F=(BL N b d c e (XC F)):=by
 rw[OY]
 kernel_rfl
def OZ (a:LA) (h:Ag) (k:KF R):O R :=
 match a,h with
 | [(.pagg b d),(.pagg c e)],[]=>(BL N b d c e (XC k))
 | _,_=>none
theorem XE:At N 73 @OZ:=by
 intro R Q a h k j;unfold OZ;split;exact Bg (XD ..) (XD ..) ⟨Y5 N,jV N,j3 N,FG N,Y3 N,trivial⟩;exact Bi
def j4:=Bf (XE N)
def j5:=Gi (XE N)
def LK (b:LA) (c:Bool) (r0:Int→O R):O R :=
 (cond (Nat.ble 3 (b.length)) (Lw N (b.take 3) c (fun d=>(cond (Nat.ble 2 (d.length)) (Ov N (d.take 2) false (fun e=>(r0 e))) none))) none)
def E2:=(Ak (@LK R)).1
theorem HX:@E2 R=@LK R:=(Ak _).2
def j6:Ke:=[(65,Y4 N),(64,NT N)]
def O_ (F:KF R):Int→O R:=(fun f=>F (iv f) [])
theorem O' (b:LA) (c:Bool) (F:KF R):Ga (j6 N) S5 N 48 [(.pagg b c)] [] F=(E2 N b c (O_ F)):=by
 rw[HX]
 kernel_rfl
def HY (a:LA) (h:Ag) (k:KF R):O R :=
 match a,h with
 | [(.pagg b c)],[]=>(E2 N b c (O_ k))
 | _,_=>none
theorem PA:At N 48 @HY:=by
 intro R Q a h k j;unfold HY;split;exact Bg (O' ..) (O' ..) ⟨Y5 N,NU N,trivial⟩;exact Bi
def Y6:=Bf (PA N)
def Y7:=Gi (PA N)
def df (b c:Int) (r0:LA→O R):O R :=
 (Fc N b (fun e=>(Fc N c (fun f=>(Jq N e false f false (fun d=>(cond ((Nat.beq 0 0)&&((Nat.beq (d.length) 3)&&(Nat.beq 3 3))) (cond (Nat.ble 3 (d.length)) (r0 (d.take 3)) none) none)))))))
def XF:=(Ak (@df R)).1
theorem XG:@XF R=@df R:=(Ak _).2
def nO:Ke:=[(71,Yx N),(70,Y2 N)]
def cH (F:KF R):LA→O R:=(fun g=>F (.pagg g false) [])
theorem cI (b c:Int) (F:KF R):Ga (nO N) Oo N 58 [(iv b),(iv c)] [] F=(XF N b c (cH F)):=by
 rw[XG]
 kernel_rfl
def XH (a:LA) (h:Ag) (k:KF R):O R :=
 match a,h with
 | [(.int .i64 b),(.int .i64 c)],[]=>(XF N b c (cH k))
 | _,_=>none
theorem cJ:At N 58 @XH:=by
 intro R Q a h k j;unfold XH;split;exact Bg (cI ..) (cI ..) ⟨Yy N,Y3 N,trivial⟩;exact Bi
def mB:=Bf (cJ N)
def mC:=Gi (cJ N)
def Lm (N:Nat) (r0:LA→Nat→O R) (e:LA) (b:Nat) (f c:Bool) (k0:Int→O R) (d:Int):O R :=
 (cond ((decide (d>0))==true) (cond (Af (wrap .i64 (d - 1)) b) (Ch .u32 (e.drop (((wrap .i64 (d - 1)).toNat)*1)) fun g=>(cond (cond true (g==0) false) (k0 (wrap .i64 (d - 1))) (cond ((decide ((0:Int)≤(0:Int)))&&((decide (0≤d))&&((decide (d≤((b:Nat):Int)))&&(decide (((b:Nat):Int)≤((b:Nat):Int)))))) (r0 (e.take ((d.toNat)*1)) (d.toNat)) none))) none) (cond ((decide ((0:Int)≤(0:Int)))&&((decide (0≤d))&&((decide (d≤((b:Nat):Int)))&&(decide (((b:Nat):Int)≤((b:Nat):Int)))))) (r0 (e.take ((d.toNat)*1)) (d.toNat)) none))
def Fj (r0:LA→Nat→O R) (e:LA) (b:Nat) (f c:Bool):Nat→Int→O R
 | 0,_=>none
 | n+1,d=>(Lm N r0 e b f c (Fj r0 e b f c n) d)
def Vb (N:Nat) (r0:LA→Nat→O R) (q0:Int→O R) (e:LA) (b:Nat) (f c:Bool):O R :=
 (q0 ((b:Nat):Int))
def N8:=(Ak (fun (N:Nat) (e:LA) (b:Nat) (f c:Bool) (r0:LA→Nat→O R)=>(Vb N r0 (fun d=>(Fj N r0 e b f c N d)) e b f c))).1
theorem DN (e b f c r0):(@N8 R N e b f c r0)=(Vb N r0 (fun d=>(Fj N r0 e b f c N d)) e b f c):=by rw[N8,(Ak _).2]
def dg (F:KF R):=Rt Try.f119 cC [] [] N F
def Jr (c:Bool) (F:KF R):LA→Nat→O R:=(fun i l=>F (.imm i l 1 false c) [])
def dh (e:LA) (b:Nat) (f c:Bool) (d:Int):St:=⟨[(0,(.imm e b 1 f c)),(3,(iv d))],[]⟩
def di (F:KF R):=dg N F [1,1,0,0] []
theorem Wn (F:KF R) (e:LA) (b:Nat) (f c:Bool):∀ (n:Nat) (d:Int),Aj (di N F) n (dh e b f c d)=(Fj N (Jr c F) e b f c n d)
 | 0,_=>by kernel_rfl
 | n+1,d=>Eq.trans (by kernel_rfl) (Dc (Lm N (Jr c F) e b f c · d) (funext fun d=>(Wn F e b f c n d)):_)
theorem HZ (e:LA) (b:Nat) (f c:Bool) (F:KF R):Ga [] cC N 119 [(.imm e b 1 f c)] [] F=(N8 N e b f c (Jr c F)):=by
 rw[DN]
 exact Eq.trans (by kernel_rfl) (Dc (Vb N (Jr c F) · e b f c) (funext fun d=>(Ah ..).trans (Wn N F e b f c N d)):_)
def DO (N:Nat) (r0:LA→O R) (k0:O R):O R :=
 (r0 [])
def Js (r0:LA→O R):Nat→O R
 | 0=>none
 | n+1=>(DO N r0 (Js r0 n))
def Vc (N:Nat) (r0:LA→O R) (q0:O R):O R :=
 q0
def N9:=(Ak (fun (N:Nat) (r0:LA→O R)=>(Vc N r0 (Js N r0 N)))).1
theorem DP (r0):(@N9 R N r0)=(Vc N r0 (Js N r0 N)):=by rw[N9,(Ak _).2]
def dj (F:KF R):=Rt Try.f119 cC [] [] N F
def Jt (F:KF R):LA→O R:=(fun b=>F (.own 300000 0 0) (hq [(bQ 1 b)]))
def dk:St:=⟨[(0,.nsl),(3,(iv 0))],[]⟩
def dl (F:KF R):=dj N F [1,1,0,0] []
theorem Wo (F:KF R):∀ (n:Nat) ,Aj (dl N F) n dk=(Js N (Jt F) n)
 | 0=>by kernel_rfl
 | n+1=>Eq.trans (by kernel_rfl) (Dc (DO N (Jt F) ·) (Wo F n):_)
theorem H_ (F:KF R):Ga [] cC N 119 [.nsl] [] F=(N9 N (Jt F)):=by
 rw[DP]
 exact Eq.trans (by kernel_rfl) (Dc (Vc N (Jt F) ·) ((Ah ..).trans (Wo N F N)):_)
def O2 (N:Nat) (r0:Int→O R) (e:LA) (d:Nat) (b:Bool) (f:LA) (k0:Int→O R) (c:Int):O R :=
 (cond (decide (c≥0)) (cond (Af c d) (Ch .u32 (e.drop ((c.toNat)*1)) fun m=>(cond (Af c 0) (Ch .u32 (f.drop (0+((c.toNat)*1))) fun o=>(cond (decide (m<o)) (r0 (-1)) (cond (Af c d) (Ch .u32 (e.drop ((c.toNat)*1)) fun p=>(cond (Af c 0) (Ch .u32 (f.drop (0+((c.toNat)*1))) fun q=>(cond (decide (p>q)) (r0 1) (k0 (wrap .i64 (c - 1))))) none)) none))) none)) none) (r0 0))
def Hy (r0:Int→O R) (e:LA) (d:Nat) (b:Bool) (f:LA):Nat→Int→O R
 | 0,_=>none
 | n+1,c=>(O2 N r0 e d b f (Hy r0 e d b f n) c)
def Qs (r0:Int→O R) (q0:LA→Nat→LA→Int→O R) (g:LA) (i:Nat) (l b:Bool):O R :=
 (N8 N g i l b (fun e d=>(N9 N (fun f=>(cond (((d:Nat):Int) != 0) (cond (decide (((d:Nat):Int)<0)) (r0 (-1)) (r0 1)) (q0 e d f (wrap .i64 (((d:Nat):Int) - 1))))))))
def Im:=(Ak (fun (N:Nat) (g:LA) (i:Nat) (l b:Bool) (r0:Int→O R)=>(Qs N r0 (fun e d f c=>(Hy N r0 e d b f N c)) g i l b))).1
theorem Y8 (g i l b r0):(@Im R N g i l b r0)=(Qs N r0 (fun e d f c=>(Hy N r0 e d b f N c)) g i l b):=by rw[Im,(Ak _).2]
def DQ:Hints:={ H:=(hS hL (hS hL (hS hL (hS (hS hL (hS (hP [0,1,5] hL) hL)) hL)))) }
def Gb (a:LA) (h:Ag) (k:KF R):O R :=
 match a,h with
 | [(.imm g i 1 l b)],[]=>(N8 N g i l b (Jr b k))
 | [.nsl],[]=>(N9 N (Jt k))
 | _,_=>none
theorem Gp:At N 119 @Gb:=by
 intro R Q a h k j;unfold Gb;split;exact Bg (HZ ..) (HZ ..) trivial;exact Bg (H_ ..) (H_ ..) trivial;exact Bi
def O3:=Bf (Gp N)
def O4:=Gi (Gp N)
def H':Ke:=[(119,O3 N)]
def bC (F:KF R):=Rt Try.f109 DQ (H' N) [] N F
def Hz (F:KF R):Int→O R:=(fun r=>F (iv r) [])
def bD (e:LA) (d:Nat) (b:Bool) (f:LA) (c:Int):St:=⟨[(0,(.imm e d 1 false b)),(1,(.own 300000 0 0)),(5,(iv c))],(hq [(bQ 1 f)])⟩
def bE (F:KF R):=bC N F [1,1,1,0,1,0] []
theorem Tg (F:KF R) (e:LA) (d:Nat) (b:Bool) (f:LA):∀ (n:Nat) (c:Int),Aj (bE N F) n (bD e d b f c)=(Hy N (Hz F) e d b f n c)
 | 0,_=>by kernel_rfl
 | n+1,c=>Eq.trans (by kernel_rfl) (Dc (O2 N (Hz F) e d b f · c) (funext fun c=>(Tg F e d b f n c)):_)
theorem DR (g:LA) (i:Nat) (l b:Bool) (F:KF R):Ga (H' N) DQ N 109 [(.imm g i 1 l b),.nsl] [] F=(Im N g i l b (Hz F)):=by
 rw[Y8]
 exact Eq.trans (by kernel_rfl) (Dc (Qs N (Hz F) · g i l b) (funext fun e=>funext fun d=>funext fun f=>funext fun c=>(Ah ..).trans (Tg N F e d b f N c)):_)
def Y9 (a:LA) (h:Ag) (k:KF R):O R :=
 match a,h with
 | [(.imm g i 1 l b),.nsl],[]=>(Im N g i l b (Hz k))
 | _,_=>none
theorem DS:At N 109 @Y9:=by
 intro R Q a h k j;unfold Y9;split;exact Bg (DR ..) (DR ..) ⟨O4 N,trivial⟩;exact Bi
def DT:=Bf (DS N)
def DU:=Gi (DS N)
def BM (b:LA) (c:Bool) (r0:LA→Bool→LA→Nat→Bool→O R):O R :=
 (Gk 1 (b.drop 2) fun d e=>(Im N d e false c (fun f=>(cond (f==0) (r0 [(.bool false),.nsl] false [(.int .u32 1)] 1 false) (cond (Nat.ble 2 (b.length)) (Gk 1 (b.drop 2) fun g i=>(cond ((Nat.beq 0 0)&&((Nat.beq ((b.take 2).length) 2)&&(Nat.beq 2 2))) (cond (Nat.ble 2 ((b.take 2).length)) (r0 ((b.take 2).take 2) c g i c) none) none)) none)))))
def Za:=(Ak (@BM R)).1
theorem Vd:@Za R=@BM R:=(Ak _).2
def gG:Hints:={ H:=hL,nils:=[(3,1)],modes:=[(3,0),(1,1)] }
def j7:Ke:=[(109,DT N)]
def PB (F:KF R):LA→Bool→LA→Nat→Bool→O R:=(fun l m n o p=>F (.tup [(.pagg l m),(.imm n o 1 false p)]) [])
theorem PC (b:LA) (c:Bool) (F:KF R):Ga (j7 N) gG N 89 [(.pagg b c)] [] F=(Za N b c (PB F)):=by
 rw[Vd]
 kernel_rfl
def IA (a:LA) (h:Ag) (k:KF R):O R :=
 match a,h with
 | [(.pagg b c)],[]=>(Za N b c (PB k))
 | _,_=>none
theorem PD:At N 89 @IA:=by
 intro R Q a h k j;unfold IA;split;exact Bg (PC ..) (PC ..) ⟨DU N,trivial⟩;exact Bi
def gH:=Bf (PD N)
def gI:=Gi (PD N)
def XI (b:LA) (c:Bool) (r0:Int→O R):O R :=
 (Gk 1 (b.drop 1) fun d e=>(Im N d e false c (fun f=>(cond (f==0) (r0 0) (NB b fun g=>(cond g (r0 (-1)) (r0 1)))))))
def IB:=(Ak (@XI R)).1
theorem PE:@IB R=@XI R:=(Ak _).2
def mD:Ke:=[(109,DT N)]
def XJ (F:KF R):Int→O R:=(fun i=>F (iv i) [])
theorem XK (b:LA) (c:Bool) (F:KF R):Ga (mD N) S5 N 90 [(.pagg b c)] [] F=(IB N b c (XJ F)):=by
 rw[PE]
 kernel_rfl
def PF (a:LA) (h:Ag) (k:KF R):O R :=
 match a,h with
 | [(.pagg b c)],[]=>(IB N b c (XJ k))
 | _,_=>none
theorem XL:At N 90 @PF:=by
 intro R Q a h k j;unfold PF;split;exact Bg (XK ..) (XK ..) ⟨DU N,trivial⟩;exact Bi
def j8:=Bf (XL N)
def j9:=Gi (XL N)
def XM (b:LA) (c:Bool) (r0:Int→O R):O R :=
 (cond (Nat.ble 3 (b.length)) (Za N (b.take 3) c (fun d e i l m=>(cond ((Nat.beq 0 0)&&((Nat.beq (d.length) 2)&&(Nat.beq 2 2))) (cond (Nat.ble 2 (d.length)) (IB N (d.take 2) e (fun f=>(r0 f))) none) none))) none)
def BN:=(Ak (@XM R)).1
theorem PG:@BN R=@XM R:=(Ak _).2
def mE:Ke:=[(89,gH N),(90,j8 N)]
def XN (F:KF R):Int→O R:=(fun g=>F (iv g) [])
theorem XO (b:LA) (c:Bool) (F:KF R):Ga (mE N) S5 N 75 [(.pagg b c)] [] F=(BN N b c (XN F)):=by
 rw[PG]
 kernel_rfl
def PH (a:LA) (h:Ag) (k:KF R):O R :=
 match a,h with
 | [(.pagg b c)],[]=>(BN N b c (XN k))
 | _,_=>none
theorem XP:At N 75 @PH:=by
 intro R Q a h k j;unfold PH;split;exact Bg (XO ..) (XO ..) ⟨gI N,j9 N,trivial⟩;exact Bi
def j_:=Bf (XP N)
def ja:=Gi (XP N)
end
end Gx

namespace Gx
open Go Go.Proofs
open IntKind (wrap)
set_option maxRecDepth 100000
noncomputable section
variable {R:Type} (N:Nat)
def kp (N:Nat) (b:LA) (c:Nat) (d e:Bool) (r0:O R):O R :=
 r0
def XQ:=(Ak (@kp R)).1
theorem XR:@XQ R=@kp R:=(Ak _).2
def cK (b:LA) (c:Nat) (d e:Bool) (F:KF R):O R:=F (op 0) (hq [(bN 0 [(.imm b c 1 d e),(iv 0)])])
theorem cL (b:LA) (c:Nat) (d e:Bool) (F:KF R):Ga [] S5 N 9 [(.imm b c 1 d e)] [] F=(XQ N b c d e (cK b c d e F)):=by
 rw[XR]
 kernel_rfl
def XS (a:LA) (h:Ag) (k:KF R):O R :=
 match a,h with
 | [(.imm b c 1 d e)],[]=>(XQ N b c d e (cK b c d e k))
 | _,_=>none
theorem cM:At N 9 @XS:=by
 intro R Q a h k j;unfold XS;split;exact Bg (cL ..) (cL ..) trivial;exact Bi
def mF:=Bf (cM N)
def mG:=Gi (cM N)
def dm (N:Nat) (c b:Int) (r0:Int→O R):O R :=
 (cond ((wrap .u64 b)==0) none (r0 (wrap .i64 (Int.tmod (wrap .u64 c) (wrap .u64 b)))))
def dn:=(Ak (@dm R)).1
theorem XT:@dn R=@dm R:=(Ak _).2
def cN (F:KF R):Int→O R:=(fun d=>F (iv d) [])
theorem cO (c b:Int) (F:KF R):Ga [] S5 N 18 [(iv c),(iv b)] [] F=(dn N c b (cN F)):=by
 rw[XT]
 kernel_rfl
def XU (a:LA) (h:Ag) (k:KF R):O R :=
 match a,h with
 | [(.int .i64 c),(.int .i64 b)],[]=>(dn N c b (cN k))
 | _,_=>none
theorem cP:At N 18 @XU:=by
 intro R Q a h k j;unfold XU;split;exact Bg (cO ..) (cO ..) trivial;exact Bi
def mH:=Bf (cP N)
def mI:=Gi (cP N)
def Ln (g:Int) (c:LA) (b:Nat) (e f:Bool) (d:Int) (r0:Int→Int→O R):O R :=
 (cond (decide (d≥((b:Nat):Int))) (r0 0 d) (cond (Af (wrap .i64 ((wrap .i64 (d+1)) - 1)) b) (Ch .i64 (c.drop (((wrap .i64 ((wrap .i64 (d+1)) - 1)).toNat)*1)) fun i=>(dn N i g (fun l=>(r0 l (wrap .i64 (d+1)))))) none))
def Cw:=(Ak (@Ln R)).1
theorem Kx:@Cw R=@Ln R:=(Ak _).2
def XV:Ke:=[(18,mH N)]
def Wp (c:LA) (b:Nat) (e f:Bool) (F:KF R):Int→Int→O R:=(fun m n=>F (iv m) [(100000,(bN 0 [(.imm c b 1 e f),(iv n)]))])
theorem Wq (g:Int) (c:LA) (b:Nat) (e f:Bool) (d:Int) (F:KF R):Ga (XV N) S5 N 24 [(.optr 100000 0),(iv g)] [(100000,(bN 0 [(.imm c b 1 e f),(iv d)]))] F=(Cw N g c b e f d (Wp c b e f F)):=by
 rw[Kx]
 kernel_rfl
def Th (a:LA) (h:Ag) (k:KF R):O R :=
 match a,h with
 | [(.optr 100000 0),(.int .i64 g)],[(100000,⟨false,false,false,false,0,[(.imm c b 1 e f),(.int .i64 d)],false,none,0,0⟩)]=>(Cw N g c b e f d (Wp c b e f k))
 | _,_=>none
theorem Wr:At N 24 @Th:=by
 intro R Q a h k j;unfold Th;split;exact Bg (Wq ..) (Wq ..) ⟨mI N,trivial⟩;exact Bi
def Mq:=Bf (Wr N)
def Mr:=Gi (Wr N)
def Rw (N:Nat) (b:Int) (r0:Bool→O R):O R :=
 (r0 (b != b))
def Ju:=(Ak (@Rw R)).1
theorem Ti:@Ju R=@Rw R:=(Ak _).2
def Ws (F:KF R):Bool→O R:=(fun c=>F (.bool c) [])
theorem Wt (b:Int) (F:KF R):Ga [] S5 N 67 [(iv b)] [] F=(Ju N b (Ws F)):=by
 rw[Ti]
 kernel_rfl
def Tj (a:LA) (h:Ag) (k:KF R):O R :=
 match a,h with
 | [(.int .i64 b)],[]=>(Ju N b (Ws k))
 | _,_=>none
theorem Wu:At N 67 @Tj:=by
 intro R Q a h k j;unfold Tj;split;exact Bg (Wt ..) (Wt ..) trivial;exact Bi
def RB:=Bf (Wu N)
def RC:=Gi (Wu N)
def C8 (r0:Int→Bool→O R) (d:LA) (c:Nat) (f g:Bool) (e:Int) (k0:Int→Int→Int→O R) (l b i:Int):O R :=
 (cond (decide (b<i)) (cond (Af (wrap .i64 (Int.fdiv (wrap .u64 (wrap .i64 (b+i))) (2 ^ 1))) c) (Ch .i64 (d.drop (((wrap .i64 (Int.fdiv (wrap .u64 (wrap .i64 (b+i))) (2 ^ 1))).toNat)*1)) fun m=>(Jm N m e (fun o=>(cond o (k0 l (wrap .i64 ((wrap .i64 (Int.fdiv (wrap .u64 (wrap .i64 (b+i))) (2 ^ 1)))+1)) i) (k0 l b (wrap .i64 (Int.fdiv (wrap .u64 (wrap .i64 (b+i))) (2 ^ 1)))))))) none) (cond ((decide (b<l))==true) (cond (Af b c) (Ch .i64 (d.drop ((b.toNat)*1)) fun p=>(cond ((p==e)==false) (cond (Af b c) (Ch .i64 (d.drop ((b.toNat)*1)) fun q=>(Ju N q (fun r=>(cond (r==true) (Ju N e (fun s=>(r0 b (cond true (cond false true (cond true s false)) false)))) (r0 b false))))) none) (r0 b true))) none) (r0 b false)))
def A2 (r0:Int→Bool→O R) (d:LA) (c:Nat) (f g:Bool) (e:Int):Nat→Int→Int→Int→O R
 | 0,_,_,_=>none
 | n+1,l,b,i=>(C8 N r0 d c f g e (A2 r0 d c f g e n) l b i)
def Cl (N:Nat) (r0:Int→Bool→O R) (q0:Int→Int→Int→O R) (d:LA) (c:Nat) (f g:Bool) (e:Int):O R :=
 (q0 ((c:Nat):Int) 0 ((c:Nat):Int))
def Be:=(Ak (fun (N:Nat) (d:LA) (c:Nat) (f g:Bool) (e:Int) (r0:Int→Bool→O R)=>(Cl N r0 (fun l b i=>(A2 N r0 d c f g e N l b i)) d c f g e))).1
theorem Ft (d c f g e r0):(@Be R N d c f g e r0)=(Cl N r0 (fun l b i=>(A2 N r0 d c f g e N l b i)) d c f g e):=by rw[Be,(Ak _).2]
def Gc:Hints:={ H:=(hS hL (hS hL (hS hL (hS (hS (hP [0,1,6,7,8] hL) hL) hL)))) }
def Gq:Ke:=[(66,Q_ N),(67,RB N)]
def Ns (F:KF R):=Rt Try.f51 Gc (Gq N) [] N F
def Bh (F:KF R):Int→Bool→O R:=(fun t u=>F (.tup [(iv t),(.bool u)]) [])
def Nt (d:LA) (c:Nat) (f g:Bool) (e l b i:Int):St:=⟨[(0,(.imm d c 1 f g)),(1,(iv e)),(6,(iv l)),(7,(iv b)),(8,(iv i))],[]⟩
def Nu (F:KF R):=Ns N F [1,1,1,0,0] []
theorem E3 (F:KF R) (d:LA) (c:Nat) (f g:Bool) (e:Int):∀ (n:Nat) (l b i:Int),Aj (Nu N F) n (Nt d c f g e l b i)=(A2 N (Bh F) d c f g e n l b i)
 | 0,_,_,_=>by kernel_rfl
 | n+1,l,b,i=>Eq.trans (by kernel_rfl) (Dc (C8 N (Bh F) d c f g e · l b i) (funext fun l=>funext fun b=>funext fun i=>(E3 F d c f g e n l b i)):_)
theorem Gd (d:LA) (c:Nat) (f g:Bool) (e:Int) (F:KF R):Ga (Gq N) Gc N 51 [(.imm d c 1 f g),(iv e)] [] F=(Be N d c f g e (Bh F)):=by
 rw[Ft]
 exact Eq.trans (by kernel_rfl) (Dc (Cl N (Bh F) · d c f g e) (funext fun l=>funext fun b=>funext fun i=>(Ah ..).trans (E3 N F d c f g e N l b i)):_)
def Fu (a:LA) (h:Ag) (k:KF R):O R :=
 match a,h with
 | [(.imm d c 1 f g),(.int .i64 e)],[]=>(Be N d c f g e (Bh k))
 | _,_=>none
theorem Ge:At N 51 @Fu:=by
 intro R Q a h k j;unfold Fu;split;exact Bg (Gd ..) (Gd ..) ⟨RA N,RC N,trivial⟩;exact Bi
def Nv:=Bf (Ge N)
def Nw:=Gi (Ge N)
def Ve (N:Nat) (k0:Int→Int→O R) (r0:Bool→O R) (d:LA) (b:Nat) (e c:Bool) (p:LA) (o:Nat) (f:Int) (k1:Int→Int→Int→Int→O R) (r s t l:Int):O R :=
 (cond (decide (l<t)) (cond (Af l o) (Ch .i64 (p.drop ((l.toNat)*1)) fun z=>(cond ((decide (z<0))==false) (cond ((cond false true (decide (z≥((b:Nat):Int))))==false) (cond ((cond false true (z==r))==false) (cond ((decide (l>0))==true) (cond (Af (wrap .i64 (l - 1)) o) (Ch .i64 (p.drop (((wrap .i64 (l - 1)).toNat)*1)) fun ab=>(cond (cond false true (cond true (decide (ab≥z)) false)) (r0 false) (k1 r s t (wrap .i64 (l+1))))) none) (k1 r s t (wrap .i64 (l+1)))) (r0 false)) (r0 false)) (r0 false))) none) (k0 f (wrap .i64 (s+1))))
def Iz (k0:Int→Int→O R) (r0:Bool→O R) (d:LA) (b:Nat) (e c:Bool) (p:LA) (o:Nat) (f:Int):Nat→Int→Int→Int→Int→O R
 | 0,_,_,_,_=>none
 | n+1,r,s,t,l=>(Ve N k0 r0 d b e c p o f (Iz k0 r0 d b e c p o f n) r s t l)
def Vf (k2:Int→Int→O R) (r0:Bool→O R) (d:LA) (b:Nat) (e c:Bool) (g:Int) (v:LA) (u:Nat) (k3:Int→Int→Int→Int→O R) (w x y q:Int):O R :=
 (cond (decide (q<y)) (cond (Af q u) (Ch .i64 (v.drop ((q.toNat)*1)) fun aa=>(cond (Af aa b) (Gk 1 (d.drop ((aa.toNat)*1)) fun ac ad=>(Be N ac ad false c w (fun ag ae=>(cond (!ae) (r0 false) (k3 w x y (wrap .i64 (q+1))))))) none)) none) (k2 g (wrap .i64 (x+1))))
def I0 (k2:Int→Int→O R) (r0:Bool→O R) (d:LA) (b:Nat) (e c:Bool) (g:Int) (v:LA) (u:Nat):Nat→Int→Int→Int→Int→O R
 | 0,_,_,_,_=>none
 | n+1,w,x,y,q=>(Vf N k2 r0 d b e c g v u (I0 k2 r0 d b e c g v u n) w x y q)
def Vg (N:Nat) (r0:Bool→O R) (d:LA) (b:Nat) (e c:Bool) (k2:Int→Int→O R) (q3:LA→Nat→Int→Int→Int→Int→O R) (g m:Int):O R :=
 (cond (decide (m<g)) (cond (Af m b) (Gk 1 (d.drop ((m.toNat)*1)) fun v u=>(q3 v u m m ((u:Nat):Int) 0)) none) (r0 true))
def Gs (r0:Bool→O R) (d:LA) (b:Nat) (e c:Bool):Nat→Int→Int→O R
 | 0,_,_=>none
 | n+1,g,m=>(Vg N r0 d b e c (Gs r0 d b e c n) (fun v u w x y q=>(I0 N (Gs r0 d b e c n) r0 d b e c g v u N w x y q)) g m)
def Vh (N:Nat) (r0:Bool→O R) (d:LA) (b:Nat) (e c:Bool) (k0:Int→Int→O R) (q1:LA→Nat→Int→Int→Int→Int→O R) (q2:Int→Int→O R) (f i:Int):O R :=
 (cond (decide (i<f)) (cond (Af i b) (Gk 1 (d.drop ((i.toNat)*1)) fun p o=>(q1 p o i i ((o:Nat):Int) 0)) none) (q2 ((b:Nat):Int) 0))
def Gt (r0:Bool→O R) (d:LA) (b:Nat) (e c:Bool):Nat→Int→Int→O R
 | 0,_,_=>none
 | n+1,f,i=>(Vh N r0 d b e c (Gt r0 d b e c n) (fun p o r s t l=>(Iz N (Gt r0 d b e c n) r0 d b e c p o f N r s t l)) (fun g m=>(Gs N r0 d b e c N g m)) f i)
def BO (N:Nat) (r0:Bool→O R) (q0:Int→Int→O R) (d:LA) (b:Nat) (e c:Bool):O R :=
 (cond (decide (((b:Nat):Int)>16384)) (r0 false) (q0 ((b:Nat):Int) 0))
def Gu:=(Ak (fun (N:Nat) (d:LA) (b:Nat) (e c:Bool) (r0:Bool→O R)=>(BO N r0 (fun f i=>(Gt N r0 d b e c N f i)) d b e c))).1
theorem IC (d b e c r0):(@Gu R N d b e c r0)=(BO N r0 (fun f i=>(Gt N r0 d b e c N f i)) d b e c):=by rw[Gu,(Ak _).2]
def PI:Hints:={ H:=(hS hL (hS hL (hS (hS hL (hS (hP [0,16,17,18] (hS hL (hS hL (hS (hS (hS hL (hS hL (hS (hP [0,3,4,16,17,18,23,24,25] hL) hL))) hL) hL)))) hL)) (hS (hS hL (hS (hP [0,58,59,60] (hS hL (hS hL (hS (hS (hS hL (hS hL (hS (hP [0,7,58,59,60,65,66,67] hL) hL))) hL) hL)))) hL)) hL)))) }
def XW:Ke:=[(51,Nv N)]
def Qt (F:KF R):=Rt Try.f30 PI (XW N) [] N F
def B7 (F:KF R):Bool→O R:=(fun af=>F (.bool af) [])
def gJ (d:LA) (b:Nat) (e c:Bool) (p:LA) (o:Nat) (f r s t l:Int):St:=⟨[(0,(.imm d b 1 e c)),(3,(iv r)),(4,(.imm p o 1 false c)),(16,(.imm d b 1 e c)),(17,(iv f)),(18,(iv s)),(23,(.imm p o 1 false c)),(24,(iv t)),(25,(iv l))],[]⟩
def gK (F:KF R) (Q0:St→O R):=Qt N F [1,1,0,1,0,0,1,1,0,0,1,1,0] [Q0]
def gL (d:LA) (b:Nat) (e c:Bool) (g:Int) (v:LA) (u:Nat) (w x y q:Int):St:=⟨[(0,(.imm d b 1 e c)),(7,(iv w)),(58,(.imm d b 1 e c)),(59,(iv g)),(60,(iv x)),(65,(.imm v u 1 false c)),(66,(iv y)),(67,(iv q))],[]⟩
def gM (F:KF R) (Q2:St→O R):=Qt N F [1,1,1,0,1,0,0,1,1,0,0,1,1,0] [Q2]
def Zb (d:LA) (b:Nat) (e c:Bool) (g m:Int):St:=⟨[(0,(.imm d b 1 e c)),(58,(.imm d b 1 e c)),(59,(iv g)),(60,(iv m))],[]⟩
def PJ (F:KF R):=Qt N F [1,1,1,0,1,0] []
def Zc (d:LA) (b:Nat) (e c:Bool) (f i:Int):St:=⟨[(0,(.imm d b 1 e c)),(16,(.imm d b 1 e c)),(17,(iv f)),(18,(iv i))],[]⟩
def PK (F:KF R):=Qt N F [1,1,0,1,0] []
theorem Zd (Q0:St→O R) (F:KF R) (d:LA) (b:Nat) (e c:Bool) (p:LA) (o:Nat) (f:Int):∀ (n:Nat) (r s t l:Int),Aj (gK N F Q0) n (gJ d b e c p o f r s t l)=(Iz N (fun f i=>Q0 (Zc d b e c f i)) (B7 F) d b e c p o f n r s t l)
 | 0,_,_,_,_=>by kernel_rfl
 | n+1,r,s,t,l=>Eq.trans (by kernel_rfl) (Dc (Ve N (fun f i=>Q0 (Zc d b e c f i)) (B7 F) d b e c p o f · r s t l) (funext fun r=>funext fun s=>funext fun t=>funext fun l=>(Zd Q0 F d b e c p o f n r s t l)):_)
theorem Ze (Q2:St→O R) (F:KF R) (d:LA) (b:Nat) (e c:Bool) (g:Int) (v:LA) (u:Nat):∀ (n:Nat) (w x y q:Int),Aj (gM N F Q2) n (gL d b e c g v u w x y q)=(I0 N (fun g m=>Q2 (Zb d b e c g m)) (B7 F) d b e c g v u n w x y q)
 | 0,_,_,_,_=>by kernel_rfl
 | n+1,w,x,y,q=>Eq.trans (by kernel_rfl) (Dc (Vf N (fun g m=>Q2 (Zb d b e c g m)) (B7 F) d b e c g v u · w x y q) (funext fun w=>funext fun x=>funext fun y=>funext fun q=>(Ze Q2 F d b e c g v u n w x y q)):_)
theorem Zf (F:KF R) (d:LA) (b:Nat) (e c:Bool):∀ (n:Nat) (g m:Int),Aj (PJ N F) n (Zb d b e c g m)=(Gs N (B7 F) d b e c n g m)
 | 0,_,_=>by kernel_rfl
 | n+1,g,m=>have e0:=(funext fun g=>funext fun m=>(Zf F d b e c n g m))
  Eq.trans (by kernel_rfl) (bz (Vg N (B7 F) d b e c · · g m) e0 (funext fun v=>funext fun u=>funext fun w=>funext fun x=>funext fun y=>funext fun q=>(Ah ..).trans ((Ze N (Aj (PJ N F) n) F d b e c g v u N w x y q).trans (Dc (I0 N · (B7 F) d b e c g v u N w x y q) e0))):_)
theorem Zg (F:KF R) (d:LA) (b:Nat) (e c:Bool):∀ (n:Nat) (f i:Int),Aj (PK N F) n (Zc d b e c f i)=(Gt N (B7 F) d b e c n f i)
 | 0,_,_=>by kernel_rfl
 | n+1,f,i=>have e0:=(funext fun f=>funext fun i=>(Zg F d b e c n f i))
  Eq.trans (by kernel_rfl) (sN (Vh N (B7 F) d b e c · · · f i) e0 (funext fun p=>funext fun o=>funext fun r=>funext fun s=>funext fun t=>funext fun l=>(Ah ..).trans ((Zd N (Aj (PK N F) n) F d b e c p o f N r s t l).trans (Dc (Iz N · (B7 F) d b e c p o f N r s t l) e0))) (funext fun g=>funext fun m=>(Ah ..).trans (Zf N F d b e c N g m)):_)
theorem PL (d:LA) (b:Nat) (e c:Bool) (F:KF R):Ga (XW N) PI N 30 [(.imm d b 1 e c)] [] F=(Gu N d b e c (B7 F)):=by
 rw[IC]
 exact Eq.trans (by kernel_rfl) (Dc (BO N (B7 F) · d b e c) (funext fun f=>funext fun i=>(Ah ..).trans (Zg N F d b e c N f i)):_)
def ID (a:LA) (h:Ag) (k:KF R):O R :=
 match a,h with
 | [(.imm d b 1 e c)],[]=>(Gu N d b e c (B7 k))
 | _,_=>none
theorem PM:At N 30 @ID:=by
 intro R Q a h k j;unfold ID;split;exact Bg (PL ..) (PL ..) ⟨Nw N,trivial⟩;exact Bi
def Qu:=Bf (PM N)
def Qv:=Gi (PM N)
def O5 (N:Nat) (k0:Int→Int→LA→O R) (r0:LA→O R) (b:Nat) (c:LA) (e d:Bool) (f:Int) (q:LA) (o:Nat) (k1:Int→Int→Int→Int→LA→O R) (l r s m:Int) (p:LA):O R :=
 (cond (decide (m<s)) (cond (Af m o) (Ch .i64 (q.drop ((m.toNat)*1)) fun t=>(cond (Af l b) (fe (p.drop (l.toNat)) fun u=>(k1 l r s (wrap .i64 (m+1)) (p.set (l.toNat) (A6 (Mm u t) 0 0)))) none)) none) (k0 f (wrap .i64 (r+1)) p))
def F2 (k0:Int→Int→LA→O R) (r0:LA→O R) (b:Nat) (c:LA) (e d:Bool) (f:Int) (q:LA) (o:Nat):Nat→Int→Int→Int→Int→LA→O R
 | 0,_,_,_,_,_=>none
 | n+1,l,r,s,m,p=>(O5 N k0 r0 b c e d f q o (F2 k0 r0 b c e d f q o n) l r s m p)
def O6 (N:Nat) (r0:LA→O R) (b:Nat) (c:LA) (e d:Bool) (k0:Int→Int→LA→O R) (q1:LA→Nat→Int→Int→Int→Int→LA→O R) (f g:Int) (i:LA):O R :=
 (cond (decide (g<f)) (cond (Af g b) (Gk 1 (c.drop ((g.toNat)*1)) fun q o=>(cond (Af g b) (q1 q o g g ((o:Nat):Int) 0 (i.set (g.toNat) (A6 [] 0 0))) none)) none) (r0 i))
def Dt (r0:LA→O R) (b:Nat) (c:LA) (e d:Bool):Nat→Int→Int→LA→O R
 | 0,_,_,_=>none
 | n+1,f,g,i=>(O6 N r0 b c e d (Dt r0 b c e d n) (fun q o l r s m p=>(F2 N (Dt r0 b c e d n) r0 b c e d f q o N l r s m p)) f g i)
def Qw (N:Nat) (r0:LA→O R) (q0:Int→Int→LA→O R) (c:LA) (b:Nat) (e d:Bool):O R :=
 (cond ((decide (0≤((b:Nat):Int)))&&((decide (((b:Nat):Int)=((b:Nat):Int)))&&((decide (((b:Nat):Int)≤140737488355328))&&(decide ((((b:Nat):Int)*((8:Nat):Int))≤140737488355328))))) (q0 ((b:Nat):Int) 0 (List.replicate b .nsl)) none)
def Gv:=(Ak (fun (N:Nat) (c:LA) (b:Nat) (e d:Bool) (r0:LA→O R)=>(Qw N r0 (fun f g i=>(Dt N r0 b c e d N f g i)) c b e d))).1
theorem Zh (c b e d r0):(@Gv R N c b e d r0)=(Qw N r0 (fun f g i=>(Dt N r0 b c e d N f g i)) c b e d):=by rw[Gv,(Ak _).2]
def DV:Hints:={ H:=(hS hL (hS hL (hS (hS hL (hS (hP [3,11,12,13] (hS hL (hS hL (hS (hS (hS hL (hS hL (hS hL (hS (hP [3,4,11,12,13,22,23,24] hL) hL)))) hL) hL)))) hL)) hL))),nils:=[(2,1)],modes:=[(2,1)],cob:=[2000010] }
def DW (F:KF R):=Rt Try.f32 DV [] [] N F
def Du (b:Nat) (F:KF R):LA→O R:=(fun v=>F (.nd 300000 (.whole b)) (hq [⟨false,false,true,false,2,v,true,none,0,0⟩]))
def bF (b:Nat) (c:LA) (e d:Bool) (f:Int) (q:LA) (o:Nat) (l r s m:Int) (p:LA):St:=⟨[(3,(.nd 300000 (.whole b))),(4,(iv l)),(11,(.imm c b 1 e d)),(12,(iv f)),(13,(iv r)),(22,(.imm q o 1 false d)),(23,(iv s)),(24,(iv m))],(hq [⟨false,false,true,false,2,p,true,none,0,0⟩])⟩
def bG (F:KF R) (Q0:St→O R):=DW N F [1,1,0,1,0,0,1,1,0,0,1,1,1,0] [Q0]
def Rx (b:Nat) (c:LA) (e d:Bool) (f g:Int) (i:LA):St:=⟨[(3,(.nd 300000 (.whole b))),(11,(.imm c b 1 e d)),(12,(iv f)),(13,(iv g))],(hq [⟨false,false,true,false,2,i,true,none,0,0⟩])⟩
def DX (F:KF R):=DW N F [1,1,0,1,0] []
theorem Tk (Q0:St→O R) (F:KF R) (b:Nat) (c:LA) (e d:Bool) (f:Int) (q:LA) (o:Nat):∀ (n:Nat) (l r s m:Int) (p:LA),Aj (bG N F Q0) n (bF b c e d f q o l r s m p)=(F2 N (fun f g i=>Q0 (Rx b c e d f g i)) (Du b F) b c e d f q o n l r s m p)
 | 0,_,_,_,_,_=>by kernel_rfl
 | n+1,l,r,s,m,p=>Eq.trans (by kernel_rfl) (Dc (O5 N (fun f g i=>Q0 (Rx b c e d f g i)) (Du b F) b c e d f q o · l r s m p) (funext fun l=>funext fun r=>funext fun s=>funext fun m=>funext fun p=>(Tk Q0 F b c e d f q o n l r s m p)):_)
theorem Tl (F:KF R) (b:Nat) (c:LA) (e d:Bool):∀ (n:Nat) (f g:Int) (i:LA),Aj (DX N F) n (Rx b c e d f g i)=(Dt N (Du b F) b c e d n f g i)
 | 0,_,_,_=>by kernel_rfl
 | n+1,f,g,i=>have e0:=(funext fun f=>funext fun g=>funext fun i=>(Tl F b c e d n f g i))
  Eq.trans (by kernel_rfl) (bz (O6 N (Du b F) b c e d · · f g i) e0 (funext fun q=>funext fun o=>funext fun l=>funext fun r=>funext fun s=>funext fun m=>funext fun p=>(Ah ..).trans ((Tk N (Aj (DX N F) n) F b c e d f q o N l r s m p).trans (Dc (F2 N · (Du b F) b c e d f q o N l r s m p) e0))):_)
theorem DY (c:LA) (b:Nat) (e d:Bool) (F:KF R):Ga [] DV N 32 [(.imm c b 1 e d)] [] F=(Gv N c b e d (Du b F)):=by
 rw[Zh]
 exact Eq.trans (by kernel_rfl) (Dc (Qw N (Du b F) · c b e d) (funext fun f=>funext fun g=>funext fun i=>(Ah ..).trans (Tl N F b c e d N f g i)):_)
def Zi (a:LA) (h:Ag) (k:KF R):O R :=
 match a,h with
 | [(.imm c b 1 e d)],[]=>(Gv N c b e d (Du b k))
 | _,_=>none
theorem DZ:At N 32 @Zi:=by
 intro R Q a h k j;unfold Zi;split;exact Bg (DY ..) (DY ..) trivial;exact Bi
def Ry:=Bf (DZ N)
def Rz:=Gi (DZ N)
end
end Gx

namespace Go.Proofs
open Go.Shelf
open Go.RowKit Go.Lib Go.Sort
def Try.lays189_ren : Go.Shelf.Ren := ⟨fun | 189 => 68 | 125 => 79 | 257 => 78 | 128 => 99 | 129 => 100 | 294 => 91 | 295 => 92 | 296 => 93 | 297 => 94 | 298 => 95 | 299 => 96 | 216 => 66 | 300 => 97 | 301 => 98 | 328 => 110 | 329 => 111 | 330 => 112 | 331 => 113 | 332 => 114 | 215 => 77 | 343 => 120 | n => n, fun | 28 => 22 | 3 => 3 | 46 => 100 | 0 => 0 | 51 => 92 | 53 => 66 | 4 => 4 | 183 => 123 | 182 => 122 | 131 => 88 | 5 => 5 | 9 => 9 | 218 => 137 | 222 => 141 | 228 => 147 | 229 => 148 | n => n, fun | n => n⟩
theorem Try.lays189 : Go.Proofs.Lays.n189 Try.prog Try.lays189_ren := {
  mixed := by kernel_rfl
  f125 := Try.func79.trans (congrArg some (by kernel_rfl))
  f128 := Try.func99.trans (congrArg some (by kernel_rfl))
  f129 := Try.func100.trans (congrArg some (by kernel_rfl))
  f189 := Try.func68.trans (congrArg some (by kernel_rfl))
  f215 := Try.func77.trans (congrArg some (by kernel_rfl))
  f216 := Try.func66.trans (congrArg some (by kernel_rfl))
  f257 := Try.func78.trans (congrArg some (by kernel_rfl))
  f294 := Try.func91.trans (congrArg some (by kernel_rfl))
  f295 := Try.func92.trans (congrArg some (by kernel_rfl))
  f296 := Try.func93.trans (congrArg some (by kernel_rfl))
  f297 := Try.func94.trans (congrArg some (by kernel_rfl))
  f298 := Try.func95.trans (congrArg some (by kernel_rfl))
  f299 := Try.func96.trans (congrArg some (by kernel_rfl))
  f300 := Try.func97.trans (congrArg some (by kernel_rfl))
  f301 := Try.func98.trans (congrArg some (by kernel_rfl))
  f328 := Try.func110.trans (congrArg some (by kernel_rfl))
  f329 := Try.func111.trans (congrArg some (by kernel_rfl))
  f330 := Try.func112.trans (congrArg some (by kernel_rfl))
  f331 := Try.func113.trans (congrArg some (by kernel_rfl))
  f332 := Try.func114.trans (congrArg some (by kernel_rfl))
  f343 := Try.func120.trans (congrArg some (by kernel_rfl))
  t0 := Try.underlying0
  a0 := Try.isAgg0
  z0 := Try.sizeOf0
  v0 := Try.zeroValue0
  t3 := Try.underlying3
  a3 := Try.isAgg3
  z3 := Try.sizeOf3
  v3 := Try.zeroValue3
  t4 := Try.underlying4
  a4 := Try.isAgg4
  z4 := Try.sizeOf4
  v4 := Try.zeroValue4
  t5 := Try.underlying5
  a5 := Try.isAgg5
  z5 := Try.sizeOf5
  v5 := Try.zeroValue5
  t9 := Try.underlying9
  a9 := Try.isAgg9
  z9 := Try.sizeOf9
  v9 := Try.zeroValue9
  t28 := Try.underlying22
  a28 := Try.isAgg22
  z28 := Try.sizeOf22
  v28 := Try.zeroValue22
  t46 := Try.underlying100
  a46 := Try.isAgg100
  z46 := Try.sizeOf100
  v46 := Try.zeroValue100
  t51 := Try.underlying92
  a51 := Try.isAgg92
  z51 := Try.sizeOf92
  v51 := Try.zeroValue92
  t53 := Try.underlying66
  a53 := Try.isAgg66
  z53 := Try.sizeOf66
  v53 := Try.zeroValue66
  t131 := Try.underlying88
  a131 := Try.isAgg88
  z131 := Try.sizeOf88
  v131 := Try.zeroValue88
  t182 := Try.underlying122
  a182 := Try.isAgg122
  z182 := Try.sizeOf122
  v182 := Try.zeroValue122
  t183 := Try.underlying123
  a183 := Try.isAgg123
  z183 := Try.sizeOf123
  v183 := Try.zeroValue123
  t218 := Try.underlying137
  a218 := Try.isAgg137
  z218 := Try.sizeOf137
  v218 := Try.zeroValue137
  t222 := Try.underlying141
  a222 := Try.isAgg141
  z222 := Try.sizeOf141
  v222 := Try.zeroValue141
  t228 := Try.underlying147
  a228 := Try.isAgg147
  z228 := Try.sizeOf147
  v228 := Try.zeroValue147
  t229 := Try.underlying148
  a229 := Try.isAgg148
  z229 := Try.sizeOf148
  v229 := Try.zeroValue148 }
open Go.Sort Go.RowKit in
theorem Try.slices_Sort_int (blk off cap : Nat) (zs : List Int) (w : World) (hH : Holds (Value.int .i64) w blk off zs.toArray) (hblk : blk < w.heap.size) (hsz : zs.length < 4611686018427387904) :
    Calls Try.prog 68 #[.slice (some ⟨blk, off, none⟩) zs.length cap] w fun e w' =>
      e = .returned (.tuple #[]) ∧ ∃ n os, w' = grow (putRow (Value.int .i64) (Sort.ahead w n) blk off (zs.mergeSort fun x y => decide (x ≤ y)).toArray) os := Any.slices_Sort_int Try.lays189 blk off cap zs w hH hblk hsz
def Try.laysNm223_ren : Go.Shelf.Ren := ⟨fun | 23 => 41 | n => n, fun | 22 => 22 | 3 => 3 | 4 => 4 | 0 => 0 | n => n, fun | n => n⟩
theorem Try.laysNm223 : Go.Proofs.Lays2.n23 Try.prog Try.laysNm223_ren := {
  mixed := by kernel_rfl
  f23 := Try.func41.trans (congrArg some (by kernel_rfl))
  t0 := Try.underlying0
  a0 := Try.isAgg0
  z0 := Try.sizeOf0
  v0 := Try.zeroValue0
  t3 := Try.underlying3
  a3 := Try.isAgg3
  z3 := Try.sizeOf3
  v3 := Try.zeroValue3
  t4 := Try.underlying4
  a4 := Try.isAgg4
  z4 := Try.sizeOf4
  v4 := Try.zeroValue4
  t22 := Try.underlying22
  a22 := Try.isAgg22
  z22 := Try.sizeOf22
  v22 := Try.zeroValue22
  i3 := by kernel_rfl }
theorem Try.slices_Delete_int (blk off cap i j : Nat) (zs : List Int) (w : World) (hH : Holds (Value.int .i64) w blk off zs.toArray) (hcap : zs.length ≤ cap) (hm : cap ≤ 9223372036854775807) (hij : i ≤ j) (hj : j ≤ zs.length) :
    Calls Try.prog 41 #[.slice (some ⟨blk, off, none⟩) zs.length cap, .int .i64 i, .int .i64 j] w fun e w' => e = .returned (.slice (some ⟨blk, off, none⟩) (zs.length - (j - i)) cap) ∧ ∃ q, w' = putRow (Value.int .i64) (Sort.ahead w q) blk off (zs.take i ++ zs.drop j ++ List.replicate (j - i) 0).toArray := Any.slices_Delete_int Try.laysNm223 blk off cap i j zs w hH hcap hm hij hj
end Go.Proofs

namespace Go.Proofs.Nb
open Go.RowKit Go.Maps Go.Sort Go.MapKept
theorem rG:Keyed Try.prog 3:=int_keyed Try.underlying3
theorem rH:(Try.prog.info? 3).map (fun i=>(i.zero,i.size,i.bytes))=some (some (.int .i64 0),1,8):=by kernel_rfl
section
variable {H:Type} {D0:DataW H} {left:Lit→Bool} {ss:List Int}
def CollectedI (D0:DataW H) (left:Lit→Bool) (ss:List Int):Prop:=ss.Nodup∧∀ x,x ∈ ss↔(has D0 (.int .i64 x)=true∧left (.int .i64 x)=false)
theorem CollectedI.start (D0:DataW H):CollectedI D0 (has D0) []:=⟨List.nodup_nil,fun x=>by cases has D0 (.int .i64 x)<;>simp⟩
theorem CollectedI.step (h:CollectedI D0 left ss) {x:Int} {y:DataW H} (hlk:left (.int .i64 x)=true) (hat:∀ zd,D0.atKey (.int .i64 x) zd=y):CollectedI D0 (fun z=>left z&&!z.sameKey (.int .i64 x)) (ss++[x]):=by
 have hhas:has D0 (.int .i64 x)=true:=has_true_of_atKey hat
 have hnew:x ∉ ss:=fun hx=>by have:=((h.2 x).1 hx).2;rw[hlk] at this;cases this
 refine⟨List.nodup_append.2 ⟨h.1,by simp,fun a ha b hb=>by simp at hb;subst hb;exact fun e=>hnew (e▸ha)⟩,fun y=>?_⟩
 by_cases hy:y=x
 ·subst hy;simp[hhas,Lit.sameKey]
 ·simp[h.2 y,hy,Lit.sameKey]
end
theorem jb {w w1:World} {a:Addr} {v:Value} (hg:w.grownBy w1 none) (h:w.cell? a=some v):w1.cell? a=some v:=by
 have hlt:a.block<w.heap.size:=by
  rcases Nat.lt_or_ge a.block w.heap.size with hl | hl
  ·exact hl
  ·simp[World.cell?,Array.getElem?_eq_none hl] at h
 have:=hg.block a.block hlt (by simp)
 unfold World.cell? at h ⊢
 rw[this];exact h
set_option maxRecDepth 100000 in
set_option maxHeartbeats 1000000 in
theorem walk {H:Type} (k b kk n:Nat) (c:Int) (D0:DataW H) (w:World) (h0:0≤c) (h1:c<(b:Int)) (hcell:w.cell? ⟨k,c.toNat,none⟩=some (.map (some kk))) (hown:w.ownsMap Try.prog 3 (plainElem Try.prog 4) kk n D0) (hmax:Maps.size D0≤16777216) :
  Calls Try.prog 52 #[.slice (some ⟨k,0,none⟩) b b,.int .i64 c] w fun e w'=>∃ (ss:List Int),e=.returned (.slice (some ⟨w.heap.size,0,none⟩) ss.length (Maps.size D0))∧ss.Nodup∧(∀ x,x ∈ ss↔has D0 (.int .i64 x)=true) ∧
   w'.ownsRow w.heap.size 3 1 (.slice (some ⟨w.heap.size,0,none⟩) ss.length (Maps.size D0)) ss.length ((ss.mergeSort (fun x y=>decide (x≤y))).map (Value.int .i64))∧Below w.heap.size w w':=by
 obtain⟨i0,hi,hz0,hz1,hz2⟩:=info_parts rH
 have hbl:=hown.lt
 have hc2:c<b:=h1
 go_enter Try.func52,Try.ntmps52
 go_wp2_with (first
  | (at_len;refine wpList_len_own _ rfl _ 68 rfl 3 4 Try.underlying68 _ kk n _ rfl hown ?_)
  | (at_make;refine wpList_make_own _ rfl _ _ 22 rfl w.heap.size 3 i0 (.int .i64 0) 1 Try.underlying22 hi hz0 hz1 _ _ _ (Maps.size D0) rfl rfl rfl (by rw[hz2];omega) (by unfold maxLen;omega) (Nat.le_refl _) ?_;intro w1 hrow1 hg1;have hcell1:=jb hg1 hcell)
  | (at_range;refine wpList_range_own _ rfl _ 68 rfl 3 4 rG Try.underlying68 _ kk n _ rfl (hown.kept hg1 (by simp)) ?_;intro w0 hrg0 hg0 hs0)
  | go_in)
 go_frame
 go_loopw [5] (fun v wr=>∃ (left:Lit→Bool) (cnt:Nat) (ss:List Int),wr.ranges Try.prog 3 (plainElem Try.prog 4) kk w1.heap.size n D0 left cnt∧ss.length+cnt≤Maps.size D0 ∧
   v=.slice (some ⟨w.heap.size,0,none⟩) ss.length (Maps.size D0)∧wr.ownsRow w.heap.size 3 1 v ss.length (ss.map (Value.int .i64))∧CollectedI D0 left ss∧Below w.heap.size w wr)
  (fun _ wr=>wr.rangeLeft kk w1.heap.size)
 case atStart =>
  exact⟨_,_,[],hrg0,by simp,rfl,hrow1.kept hg0 (Or.inr (by simp[Value.ownBlock])),CollectedI.start D0,
   ((Below.refl _ _).grown hg1 (Nat.le_refl _) (fun j hj=>by cases hj)).grown hg0 hg1.size (fun j hj=>by cases hj)⟩
 case round =>
  obtain⟨left,cnt,ss,hrg,hcs,rfl,hrow,hC,hnx⟩:=hrel
  go_wp2_with (first
   | (at_next;refine wpList_next_ranges _ rfl _ rfl 3 rG (plainElem Try.prog 4) (Value.int .i64) (id:Value→Value) (fun key kl hk=>by obtain⟨x,hx,_⟩:=Maps.keyOf_int_inv Try.underlying3 hk;exact⟨x,hx⟩) (fun v y hv=>⟨v,rfl⟩) kk w1.heap.size n _ _ _ rfl hrg ?_ ?_)
   | go_in)
  ·intro hc0 hl0
   rcases hrow.2 with⟨hnil,_⟩ | ⟨g,cap,cur,hv,hbase,hb,e1,e2,e3,e4⟩
   ·cases hnil
   cases hv
   have hH:Holds (Value.int .i64) _ w.heap.size 0 ss.toArray:=holds_of_blockI hb (by simpa using e4)
   have hgl:=(Array.getElem?_eq_some_iff.1 hb).1
   have hsort:=Try.slices_Sort_int w.heap.size 0 (Maps.size D0) ss _ hH hgl (by omega)
   go_wp2_with (go_at_call 68;refine hsort.mono ?_;rintro e w' ⟨rfl,nn,os,rfl⟩)
   go_ret
   refine⟨ss,rfl,hC.1,fun x=>by rw[hC.2 x,hl0];simp,ownsRow_sortedI (by simp) hbase hb e1 e2 e3,hnx.grown (grownBy_sortedI _) hnx.size (fun j hj=>by cases hj;exact hbase)⟩
  ·intro x cc kl yd yp w2 cnt2 hkey hlk hv hat hrg2 hlt hg2 hs2 hen
   obtain⟨x',ex,rfl,_⟩:=Maps.keyOf_int_inv Try.underlying3 hkey
   obtain rfl:x=x':=by simpa using ex
   have hrow2:=hrow.kept hg2 (Or.inr (row_ne_iter hrow hrg).symm)
   clear hs2
   go_wp2_with (first
    | (at_builtin;refine wpList_append_fits _ rfl _ _ 22 rfl w.heap.size 3 i0 1 Try.underlying22 hi hz1 w.heap.size _ (Maps.size D0) _ rfl (hrow2.alloc _) ⟨w2.heap.size,0,none⟩ 1 1 [Value.int .i64 x] rfl rfl (cell_one_new _ _ _) (by simp[Value.oneCell']) (by omega) ?_;intro w3 hown3 hg3;go_frame)
    | go_in)
   have hrg3:=(hrg2.alloc _).kept hg3 (by simp only[ne_eq,Option.some.injEq];omega) (by have h5:=row_ne_iter hrow2 hrg2;simp only[Value.ownBlock] at h5;exact h5)
   refine⟨⟨_,cnt2,ss++[x],hrg3,by simp;omega,by simp,by simpa using hown3,hC.step hlk hat,?_⟩,?_⟩
   ·exact((hnx.grown hg2 hnx.size (fun j hj=>by cases hj;exact hg1.size)).alloc (by have:=hnx.size;have:=hg2.size;omega) _).grown hg3 (by have:=hnx.size;have:=hg2.size;simp;omega) (fun j hj=>by cases hj;exact Nat.le_refl _)
   ·rw[hrg3.left_eq,hrg.left_eq];exact hlt
end Go.Proofs.Nb

namespace Gx
open Go Go.Proofs Go.RowKit
noncomputable section
variable {R:Type} (N:Nat)
def Ae (l:List Int):LA:=l.map fun n=>.int .i64 n
def kq:AV→Int
 | .int _ n=>n
 | _=>0
def IE:AV→Bool
 | .int .i64 n=>decide (-9223372036854775808≤n)&&decide (n≤9223372036854775807)
 | _=>false
def bH (n:Int):List Int→List Int
 | []=>[n]
 | m::r=>if n≤m then n::m::r else m::bH n r
def D_ (l:List Int):List Int:=l.foldr bH []
def Wv (c:LA):LA:=Ae (D_ (c.map kq))
def Cq (_N:Nat) (b:Nat) (c:Int) (v:LA) (r0:Nat→LA→LA→O R):O R :=
 cond (Af c b) (fe (v.drop c.toNat) fun l=>cond (Nat.ble l.length 16777216&&l.all IE) (r0 l.length v (Wv l)) none) none
def En:=(Ak (@Cq R)).1
theorem Co:@En R=@Cq R:=(Ak _).2
def Eb (a:LA) (h:Ag) (k:KF R):O R :=
 match a,h with
 | [(.nd 100000 (.whole b)),(.int .i64 c)],[(100000,⟨false,false,true,false,2,v,true,none,0,0⟩)]=>En N b c v fun n v' l=>k (.own 300000 0 n) [(100000,⟨false,false,true,false,2,v',true,none,0,0⟩),(300000,(bQ 1 l))]
 | _,_=>none
def Gw:Tw:=⟨fun {R} a h k=>@Eb R N a h k,fun {R} a h k=>by
 unfold Eb
 split
 ·rename_i b c v
  rw[Co,Co];unfold Cq fe
  cases Af c b
  ·rfl
  ·cases (v.drop c.toNat).head? with
   | none=>rfl
   | some y =>
    simp only[cond_true,Option.bind_some]
    cases Sj y with
    | none=>rfl
    | some l=>simp only[Option.bind_some];cases (Nat.ble l.length 16777216&&l.all IE)<;>rfl
 ·rfl⟩
def Di (_N:Nat) (n:Nat) (i j:Int) (c:LA) (r0:Nat→LA→O R):O R :=
 cond (decide (0≤i)&&(decide (i≤j)&&(decide (j≤(n:Int))&&(Nat.ble 1 n&&(Nat.ble n 16777216&&(c.take n).all IE))))) (r0 (n - (j - i).toNat) (c.take i.toNat++(c.take n).drop j.toNat)) none
def In:=(Ak (@Di R)).1
theorem Dm:@In R=@Di R:=(Ak _).2
def Do (a:LA) (h:Ag) (k:KF R):O R :=
 match a,h with
 | [(.own 100000 0 n),(.int .i64 i),(.int .i64 j)],[(100000,⟨false,false,true,false,1,c,false,some (3,140737488355328),0,0⟩)]=>In N n i j c fun n' c'=>k (.own 300000 0 n') [(300000,⟨false,false,true,false,1,c',false,some (3,140737488355328),0,0⟩)]
 | _,_=>none
def Kf:Tw:=⟨fun {R} a h k=>@Do R N a h k,fun {R} a h k=>by
 unfold Do
 split
 ·rename_i n i j c
  rw[Dm,Dm];unfold Di
  cases (decide (0≤i)&&(decide (i≤j)&&(decide (j≤(n:Int))&&(Nat.ble 1 n&&(Nat.ble n 16777216&&(c.take n).all IE)))))<;>rfl
 ·rfl⟩
end
theorem nP {x:AV} (h:IE x=true):∃ n,x=.int .i64 n∧-9223372036854775808≤n∧n≤9223372036854775807:=by
 unfold IE at h
 split at h
 ·simp at h;exact⟨_,rfl,h⟩
 ·cases h
theorem XX:∀ {c:LA},c.all IE=true→c=Ae (c.map kq)∧∀ n ∈ c.map kq,-9223372036854775808≤n∧n≤9223372036854775807
 | [],_=>⟨rfl,by simp⟩
 | x::r,h=>by
  simp only[List.all_cons,Bool.and_eq_true] at h
  obtain⟨n,rfl,h1⟩:=nP h.1
  obtain⟨h2,h3⟩:=XX h.2
  refine⟨by simp only[List.map_cons,Ae,kq];rw[show List.map (fun n=>AV.int IntKind.i64 n) (List.map kq r)=r from h2.symm],fun m hm=>?_⟩
  rw[List.map_cons] at hm
  rcases List.mem_cons.1 hm with rfl | hm
  ·exact h1
  ·exact h3 m hm
theorem Tm (l:List Int):(Ae l).map kq=l:=by
 unfold Ae;rw[List.map_map]
 exact List.map_id'' (fun x=>rfl) l
theorem FDone.of {J J':Bool→Nat→Prop} {β β':Aw} {h H:Ag} {w w':World} (A:Step J β h w J' β' H w') (hl:∀ b x,Ac H b=some x→x.dead=false):FDone ⟨J,β,h,w⟩ J' β' H w' :=
 ⟨A.sim,A.os,A.tape,A.output,A.size,A.frame,A.wr,A.ext.jsub,A.jup,fun k=>A.ext.size 0 k 0 trivial,fun b x0 x h0 hx hd=>by
  obtain⟨x',⟨h1,h2⟩,h3⟩:=A.ext.blk b x0 h0
  change Ac H b=some x at hx
  rw[hx] at h1;simp at h1;subst h1
  rcases h3 with h3 | ⟨h3,h4,h5,h6⟩
  ·rw[hd] at h3;cases h3
  ·exact⟨⟨h4.o,h2⟩,h5,h6,h3⟩,hl⟩
theorem SimH.oneB {J:Bool→Nat→Prop} {β β1:Aw} {h:Ag} {w w':World} (S:SimH J β h w) (hk:∀ o,M0 (J o) w w') (hs:w.heap.size≤w'.heap.size) {b:Nat} {x:Blk} (hm:x.mp=false) (M:iM J β1 [(b,x)] w' b x):SimH J β1 [(b,x)] w':=by
 refine⟨fun o k hj=>Nat.lt_of_lt_of_le (S.jlt o k hj) hs,S.jft,S.gl.to (fun _ h=>h) (hk false),fun c y hy _ _=>?_,fun c y hy _ hmy=>?_,fun c c' y y' j hy hy' _ _ _ _ _=>?_⟩
 ·obtain⟨rfl,rfl⟩:=B5 hy;exact M
 ·obtain⟨rfl,rfl⟩:=B5 hy;rw[hm] at hmy;cases hmy
 ·rw[(B5 hy).1,(B5 hy').1]
theorem mJ {J:Bool→Nat→Prop} {β:Aw} {h:Ag} {w w':World} (S:SimH J β h w) (B:Below w.heap.size w w') {d g:Nat} (hn:Ac h d=none) (hl:∀ b x,Ac h b=some x→x.dead=false) {sz:Nat} {c:LA} {cs:Array Value} {ty:TypeId}
  (hg:w.heap.size≤g) (hk:w'.heap[g]?=some (.cells cs ty (0,0))) (hlen:c.length≤cs.size) (hc:RepCs (J false) w' c (fun j=>cs[j]?) 0) :
  ∃ J' β',FDone ⟨J,β,h,w⟩ J' β' (Cb h d (bQ sz c)) w'∧β' d=some (g,0):=by
 have kJ:∀ o,M0 (J o) w w':=fun o k hj=>B.block k (S.jlt o k hj)
 have S1:SimH J (fun _=>some (g,0)) [(d,bQ sz c)] w':=by
  refine S.oneB kJ B.size rfl (.inr ⟨g,0,cs,ty,(0,0),rfl,hk,⟨.inl rfl,TyOk.none⟩,by show 0+c.length≤_;omega,⟨fun _=>RepCs.keep (fun _ h=>h) (fun _ _=>rfl) (fun j=>by rw[Nat.zero_add]) hc,fun hp=>by cases hp⟩,fun _ q hj=>?_,fun hp=>by cases hp⟩)
  have:=S.jlt q g hj;omega
 have A:=Step.merge (J1:=J) (H:=Cb h d (bQ sz c)) (D:=[d]) (ids:=[]) S S1 (fun b hb=>by rw[Aa,if_neg (by simpa using hb)])
  (fun b z hb hz _=>by
   simp at hb;subst hb
   rw[Aa,if_pos rfl] at hz;simp at hz;subst hz;exact⟨_,F0,Bumped.rfl⟩)
  (fun b y hy=>by
   obtain⟨rfl,rfl⟩:=B5 hy
   exact⟨by simp,_,by rw[Aa,if_pos rfl],Bumped.rfl⟩)
  (fun b z hb _=>by simp at hb;subst hb;rw[hn];simp)
  (fun b z hb=>by simp at hb) (fun b hb=>by simp at hb) B.os B.tape B.output B.size (fun k hk' _=>B.block k hk')
  (fun k hm hk'=>by
   obtain⟨b,y,hy,_,_,ht⟩:=hm
   obtain⟨rfl,rfl⟩:=B5 hy
   obtain⟨o,ho⟩:=ht.ord rfl
   simp at ho;omega)
  (fun _ _ hj=>.inl hj) (fun k=>by
   by_cases hk':k<w.heap.size
   ·simp[Am,B.block k hk']
   ·simp[Am,Array.getElem?_eq_none (Nat.le_of_not_lt hk')])
 refine⟨_,_,FDone.of A.1 (fun b x hx=>?_),by simp⟩
 rw[Aa] at hx
 by_cases e:b=d
 ·rw[if_pos e] at hx;simp at hx;subst hx;rfl
 ·rw[if_neg e] at hx;exact hl b x hx
theorem gN {n x:Int}:∀ {l:List Int},x ∈ bH n l↔x=n∨x ∈ l
 | []=>by simp[bH]
 | m::r=>by
  rw[bH]
  split
  ·simp
  ·rw[List.mem_cons,gN,List.mem_cons]
   constructor
   ·rintro(h | h | h)
    ·exact .inr (.inl h)
    ·exact .inl h
    ·exact .inr (.inr h)
   ·rintro(h | h | h)
    ·exact .inr (.inl h)
    ·exact .inl h
    ·exact .inr (.inr h)
theorem cQ (n:Int):∀ (l:List Int),(bH n l).Perm (n::l)
 | []=>.refl _
 | m::r=>by
  rw[bH]
  split
  ·exact .refl _
  ·exact((cQ n r).cons m).trans (.swap n m r)
theorem Vi:∀ (l:List Int),(D_ l).Perm l
 | []=>.refl _
 | m::r=>(cQ m _).trans ((Vi r).cons m)
theorem PN {n:Int}:∀ {l:List Int},l.Pairwise (·≤·)→(bH n l).Pairwise (·≤·)
 | [],_=>by simp[bH]
 | m::r,h=>by
  rw[List.pairwise_cons] at h
  rw[bH]
  split
  ·rename_i hle
   refine List.pairwise_cons.2 ⟨fun x hx=>?_,List.pairwise_cons.2 h⟩
   rcases List.mem_cons.1 hx with rfl | hx
   ·exact hle
   ·have:=h.1 x hx;omega
  ·rename_i hle
   refine List.pairwise_cons.2 ⟨fun x hx=>?_,PN h.2⟩
   rcases gN.1 hx with rfl | hx
   ·omega
   ·exact h.1 x hx
theorem Vj:∀ (l:List Int),(D_ l).Pairwise (·≤·)
 | []=>by simp[D_]
 | m::r=>PN (Vj r)
theorem RD {ss l:List Int} (h:ss.Perm l):ss.mergeSort (fun x y=>decide (x≤y))=D_ l:=by
 have h1:(ss.mergeSort (fun x y=>decide (x≤y))).Perm (D_ l):=(List.mergeSort_perm _ _).trans (h.trans (Vi l).symm)
 have h2:=List.pairwise_mergeSort (le:=fun x y:Int=>decide (x≤y)) (fun a b c=>by simp;omega) (fun a b=>by simp;omega) ss
 refine List.Perm.eq_of_pairwise (le:=fun a b:Int=>a≤b) (fun a b _ _ h3 h4=>by omega) (h2.imp (by simp)) (Vj l) h1
open Go.WideElems (Fit rd rg rg_of rd_key) in
open Go.WideShapes in
theorem nQ {w:World} {kk clk:Nat} {es:Array MapEntry} {li:List Int} (hk:w.heap[kk]?=some (.map es clk)) (hr:EY (Ae li) es clk) (hw:∀ n ∈ li,-9223372036854775808≤n∧n≤9223372036854775807) (hl:li.length≤16777216) :
  ∃ D0:DataW Unit,w.ownsMap Try.prog 3 (plainElem Try.prog 4) kk es.size D0∧Go.Maps.size D0=li.length∧∀ x,Go.Maps.has D0 (.int .i64 x)=true↔x ∈ li:=by
 obtain⟨⟨l,h1,h2⟩,hst⟩:=hr
 have hll:l=li:=by
  have:=congrArg (List.map kq) h1
  rw[Tm] at this
  rw[show(l.map fun n=>AV.int IntKind.i64 n)=Ae l from rfl,Tm] at this
  exact this.symm
 subst hll
 have hent:∀ x ∈ es.toList,∃ n,n ∈ l∧x.key=.int .i64 n∧x.val=.bool true:=fun x hx=>Sv (c:=[]) h2 hx
 have hrd:∀ x ∈ es.toList,∃ n,n ∈ l∧x.key=.int .i64 n∧rd (H:=Unit) Try.prog 3 (plainElem Try.prog 4) x=some (.int .i64 n,.lit (.bool true)):=by
  intro x hx
  obtain⟨n,hn,hk1,hv⟩:=hent x hx
  have hwf:(Lit.int .i64 n).wf=true:=by
   have:=hw n hn
   simp[Lit.wf,IntKind.min,IntKind.max,IntKind.signed,IntKind.bits];omega
  refine⟨n,hn,hk1,?_⟩
  unfold rd
  rw[hk1,hv,Go.Maps.keyOf_int_mk Try.underlying3 hwf,plainElem_bool Try.underlying4]
  rfl
 have hF:Fit (H:=Unit) Try.prog 3 (plainElem Try.prog 4) es clk:=by
  have hsz:es.size=l.length:=by have:=congrArg List.length h2;simpa using this
  exact⟨by unfold maxLen;omega,hst,fun x hx=>by obtain⟨n,_,_,h⟩:=hrd x hx;exact⟨_,h⟩⟩
 refine⟨.map ((es.toList.map (rg Try.prog 3 (plainElem Try.prog 4))).foldr DataW.insert []),⟨es,clk,hk,hF,Nat.le_refl _,rfl⟩,?_,fun x=>?_⟩
 ·rw[Go.Maps.size_eq,(sorted_perm _).length_eq,List.length_map]
  have:=congrArg List.length h2
  simpa using this
 ·rw[Go.Maps.has_eq,List.any_eq_true]
  constructor
  ·rintro⟨p,hp,hs⟩
   obtain⟨e,he,rfl⟩:=List.mem_map.1 (mem_sorted.1 hp)
   obtain⟨n,hn,_,hq⟩:=hrd e he
   rw[rg_of hq] at hs
   simp[Lit.sameKey] at hs
   subst hs;exact hn
  ·intro hx
   obtain⟨e,he,hke⟩:=fA h2 hx
   obtain⟨n,hn,hk2,hq⟩:=hrd e he
   rw[hke] at hk2;simp at hk2;subst hk2
   exact⟨_,mem_sorted.2 (List.mem_map.2 ⟨e,he,rfl⟩),by rw[rg_of hq];simp[Lit.sameKey]⟩
theorem Lx (N:Nat):lk Try.prog 52 (Gw N):=by
 intro args h res h' hh0
 have hh:Eb N args h (fun v h'=>some (v,h'))=some (res,h'):=hh0
 unfold Eb at hh
 split at hh
 ·rename_i b c v
  rw[Co,Cq] at hh
  obtain⟨h1,h2⟩:=uc hh
  unfold fe at h2
  obtain⟨y,h3,h4⟩:=ub h2
  obtain⟨l,h5,h6⟩:=ub h4
  obtain⟨h7,h8⟩:=uc h6
  simp only[Bool.and_eq_true] at h7
  have h71:=Nat.le_of_ble_eq_true h7.1
  obtain⟨h72,h73⟩:=XX h7.2
  simp at h8
  obtain⟨rfl,rfl⟩:=h8
  obtain⟨i1,i2⟩:=Fz h1
  intro J β w vs S hr
  obtain⟨u,cv,rfl,e1,e2⟩:=fi hr
  rw[Rep] at e2;subst e2
  have hb:Ac [(100000,(⟨false,false,true,false,2,v,true,none,0,0⟩:Blk))] 100000=some ⟨false,false,true,false,2,v,true,none,0,0⟩:=F0
  obtain⟨k,o,hβ,hN,_,_,_,_⟩:=Ji S hb rfl rfl
  obtain⟨_,k',o',g1,_,g2,rfl⟩:=MJ hb rfl e1
  rw[hβ] at g1;simp at g1;obtain⟨rfl,rfl⟩:=g1
  obtain⟨_,cs,ty,fr,hk,hfr,hcs,hdl,hall,huq⟩:=hN
  rw[List.head?_drop] at h3
  have g2:v.length=b:=g2
  have hcs:cs.size=v.length:=hcs
  have hdl:(dec o).length=v.length:=hdl
  have hlt:c.toNat<b:=by omega
  obtain⟨en,hen⟩:∃ e,(dec o)[c.toNat]?=some e:=⟨_,List.getElem?_eq_getElem (by omega)⟩
  obtain⟨cell,hc1,hv,hI⟩:=hall _ _ hen
  have hc1:v[c.toNat]?=some cell:=hc1
  rw[h3] at hc1;simp at hc1;subst hc1
  have hI:InnerIs (J false) w 0 en y:=hI
  have hv:cs[c.toNat]?=some (P3 0 en):=hv
  match en,hen,hI,hv with
  | none,_,hI,_=>rcases hI with rfl | rfl<;>simp[Sj] at h5
  | some (false,_,_,_,_),_,hI,_=>simp[InnerIs] at hI;subst hI;simp[Sj] at h5
  | some (true,kk,a,n',cap),hen,hI,hv =>
   obtain⟨l1,es,clk,q1,hI⟩:=hI
   rcases hI with⟨rfl,rfl,q2⟩ | ⟨t,rfl,rfl,_⟩
   ·simp[Sj,A6] at h5;subst h5
    rw[h72] at q2
    obtain⟨D0,w1,w2,w3⟩:=nQ q1 q2 h73 (by simpa using h71)
    have hcell:w.cell? ⟨k,c.toNat,none⟩=some (.map (some kk)):=by rw[D1 hk];exact hv
    refine(Nb.walk k b kk es.size c D0 w i1 (by omega) hcell w1 (by rw[w2];simpa using h71)).mono ?_
    rintro e w' ⟨ss,rfl,s1,s2,s3,s4⟩
    have hnd:(l1.map kq).Nodup:=by
     obtain⟨⟨lj,j1,j2⟩,hst⟩:=q2
     have hjl:lj=l1.map kq:=by
      have:=congrArg (List.map kq) j1
      rw[Tm] at this
      rw[show(lj.map fun n=>AV.int IntKind.i64 n)=Ae lj from rfl,Tm] at this
      exact this.symm
     rw[←hjl]
     have h3':(es.toList.map (·.key)).Nodup:=hst.2.2
     have h4':es.toList.map (·.key)=lj.map fun n=>(.int .i64 n:Value):=by
      have:=congrArg (List.map Prod.fst) j2
      rw[List.map_map,List.map_map] at this
      exact this
     rw[h4'] at h3'
     exact List.Pairwise.of_map (fun n=>(.int .i64 n:Value)) (fun a b hab e=>hab (by rw[e])) h3'
    have hp:ss.Perm (l1.map kq):=(List.perm_ext_iff_of_nodup s1 hnd).2 (fun x=>by rw[s2 x,w3 x])
    have hlen:ss.length=l1.length:=by have:=hp.length_eq;simpa using this
    rw[RD hp] at s3
    rcases s3.2 with⟨z,_⟩ | ⟨g,cap',cur,z,z1,z2,z3,z4,z5,z6⟩
    ·cases z
    ·simp at z;obtain⟨rfl,rfl⟩:=z
     have hsl:(D_ (l1.map kq)).length=ss.length:=by rw[(Vi _).length_eq,hp.length_eq]
     have hc:RepCs (J false) w' (Wv l1) (fun j=>cur[j]?) 0:=by
      rw[Ay]
      intro j x hj
      unfold Wv Ae at hj
      rw[List.getElem?_map] at hj
      cases hq:(D_ (l1.map kq))[j]? with
      | none=>rw[hq] at hj;simp at hj
      | some m =>
       rw[hq] at hj;simp at hj;subst hj
       have hjl:=(List.getElem?_eq_some_iff.1 hq).1
       refine⟨.int .i64 m,?_,by rw[RepC]⟩
       have:=congrArg (fun q=>q[j]?) z6
       rw[List.getElem?_take_of_lt (by omega),List.getElem?_map,hq,Array.getElem?_toList] at this
       simpa using this
     have hcl:(Wv l1).length≤cur.size:=by unfold Wv Ae;rw[List.length_map,hsl,z5];omega
     obtain⟨J',β',F,hb'⟩:=mJ (d:=300000) (sz:=1) S s4 rfl (fun b x hx=>by obtain⟨rfl,rfl⟩:=B5 hx;rfl) z1 z2 hcl hc
     refine⟨_,J',β',rfl,F,?_⟩
     rw[Rep]
     refine⟨bQ 1 (Wv l1),_,_,⟨rfl,rfl⟩,by rw[hlen],by rw[←hlen];exact z3,.inr ⟨w.heap.size,0,rfl,.inr ⟨hb',?_,?_⟩⟩⟩
     ·rw[A0 z2,z5];show 0+0+Go.Maps.size D0*1≤_;omega
     ·show 0+l1.length*1≤(Wv l1).length
      unfold Wv Ae;rw[List.length_map,hsl];omega
   ·simp[Sj,A6,Nat.beq] at h5
 ·simp at hh
theorem Xt (N:Nat):lk Try.prog 41 (Kf N):=by
 intro args h res h' hh0
 have hh:Do N args h (fun v h'=>some (v,h'))=some (res,h'):=hh0
 unfold Do at hh
 split at hh
 ·rename_i n i j c
  rw[Dm,Di] at hh
  obtain⟨h1,h2⟩:=uc hh
  simp only[Bool.and_eq_true,decide_eq_true_eq] at h1
  obtain⟨a1,a2,a3,a4,a5,a6⟩:=h1
  have a4:=Nat.le_of_ble_eq_true a4
  have a5:=Nat.le_of_ble_eq_true a5
  obtain⟨a7,a8⟩:=XX a6
  simp at h2
  obtain⟨rfl,rfl⟩:=h2
  intro J β w vs S hr
  rw[Reps] at hr
  obtain⟨u,us,rfl,e1,hr⟩:=hr
  obtain⟨iv',jv',rfl,e2,e3⟩:=fi hr
  simp only[Rep] at e2 e3;subst e2 e3
  have hb:Ac [(100000,(⟨false,false,true,false,1,c,false,some (3,140737488355328),0,0⟩:Blk))] 100000=some ⟨false,false,true,false,1,c,false,some (3,140737488355328),0,0⟩:=F0
  rw[Rep] at e1
  obtain⟨x,A,cap,⟨hx,_⟩,rfl,hcap,e1⟩:=e1
  rw[hb] at hx;simp at hx;subst hx
  rcases e1 with e1 | ⟨k,o,rfl,e1⟩
  ·omega
  rcases e1 with e1 | ⟨hβ,g1,g2⟩
  ·cases e1
  rcases S.blk 100000 _ hb rfl rfl with⟨hz,_⟩ | ⟨k',o',cs,ty,fr,hβ',k1,k2,k3,k4,k5,_⟩
  ·rw[hβ] at hz;cases hz
  rw[hβ] at hβ';simp at hβ';obtain⟨rfl,rfl⟩:=hβ'
  obtain⟨hty,ho,hsz⟩:=k2.2 3 140737488355328 rfl
  subst ho
  have k3:0+c.length≤cs.size:=k3
  have g2:0+n*1≤c.length:=g2
  rw[A0 k1] at g1
  have g1:0+0+cap*1≤cs.size:=g1
  have k4':RepCs (J false) w c (fun j=>cs[0+j]?) 0:=k4.1 rfl
  generalize hzs:(c.take n).map kq=zs at *
  have hzl:zs.length=n:=by rw[←hzs];simp;omega
  have hcz:∀ (q:Nat) m,zs[q]?=some m→cs[0+q]?=some (.int .i64 m):=by
   intro q m hq
   have hql:=(List.getElem?_eq_some_iff.1 hq).1
   have h9:(c.take n)[q]?=some (.int .i64 m):=by rw[a7];unfold Ae;rw[List.getElem?_map,hq];rfl
   rw[List.getElem?_take_of_lt (by omega)] at h9
   obtain⟨v,hv,hvr⟩:=k4'.at h9
   rw[RepC] at hvr;subst hvr
   exact hv
  have hH:Go.Sort.Holds (Value.int .i64) w k 0 zs.toArray:=by
   intro q hq
   have hq':q<zs.length:=by simpa using hq
   refine⟨?_,?_⟩
   ·rw[D1 k1,hcz q zs[q] (by simp[hq'])]
    simp[hq']
   ·simp only[World.frozen?,k1]
    have:=k2.1.at (0+q) (by omega)
    cases fr;simp at this ⊢;omega
  have hcall:=Try.slices_Delete_int k 0 cap i.toNat j.toNat zs w hH (by omega) (by omega) (by omega) (by omega)
  rw[hzl,Int.toNat_of_nonneg a1,Int.toNat_of_nonneg (by omega)] at hcall
  refine hcall.mono ?_
  rintro e w' ⟨rfl,q,rfl⟩
  generalize hnew:zs.take i.toNat++zs.drop j.toNat++List.replicate (j.toNat - i.toNat) 0=nw
  have hnl:nw.length=n:=by rw[←hnew];simp;omega
  have O:OnlyBlk w (Go.Sort.putRow (Value.int .i64) (Go.Sort.ahead w q) k 0 nw.toArray) k cs (Go.Sort.putCells (Value.int .i64) 0 nw.toArray cs) ty fr:=by
   refine⟨k1,?_,by simp[Go.Sort.putCells],fun q2 hq2=>?_,?_,rfl,rfl,rfl⟩
   ·simp[Go.Sort.putRow,Go.Sort.mapBlock,Go.Sort.ahead,Array.getElem?_modify,k1,Go.Sort.onCells]
   ·simp[Go.Sort.putRow,Go.Sort.mapBlock,Go.Sort.ahead,Array.getElem?_modify,Ne.symm hq2]
   ·simp[Go.Sort.putRow,Go.Sort.mapBlock,Go.Sort.ahead]
  have hcs':∀ (q2:Nat) m,nw[q2]?=some m→(Go.Sort.putCells (Value.int .i64) 0 nw.toArray cs)[q2]?=some (.int .i64 m):=by
   intro q2 m hm
   have hml:=(List.getElem?_eq_some_iff.1 hm).1
   have:q2<cs.size:=by omega
   simp[Go.Sort.putCells,this,hml]
   rw[List.getElem?_eq_getElem hml] at hm
   simpa using hm
  have unJ:=S.unJ hb rfl rfl hβ
  have kJ:∀ g,M0 (J g) w (Go.Sort.putRow (Value.int .i64) (Go.Sort.ahead w q) k 0 nw.toArray):=fun g q2 hj=>O.other q2 (fun e=>by subst e;exact unJ g hj)
  have hcl:(c.take i.toNat++(c.take n).drop j.toNat)=Ae (zs.take i.toNat++zs.drop j.toNat):=by
   have h8:c.take i.toNat=(c.take n).take i.toNat:=by rw[List.take_take,Nat.min_eq_left (by omega)]
   rw[h8,a7];unfold Ae;simp
  have hrc:RepCs (J false) (Go.Sort.putRow (Value.int .i64) (Go.Sort.ahead w q) k 0 nw.toArray) (c.take i.toNat++(c.take n).drop j.toNat) (fun q2=>(Go.Sort.putCells (Value.int .i64) 0 nw.toArray cs)[0+q2]?) 0:=by
   rw[hcl,Ay]
   intro q2 x hx
   unfold Ae at hx
   rw[List.getElem?_map] at hx
   cases hm:(zs.take i.toNat++zs.drop j.toNat)[q2]? with
   | none=>rw[hm] at hx;simp at hx
   | some m =>
    rw[hm] at hx;simp at hx;subst hx
    refine⟨.int .i64 m,?_,by rw[RepC]⟩
    simp only[Nat.zero_add]
    refine hcs' q2 m ?_
    rw[←hnew,List.getElem?_append_left (List.getElem?_eq_some_iff.1 hm).1];exact hm
  have hlen:(c.take i.toNat++(c.take n).drop j.toNat).length=n - (j - i).toNat:=by
   rw[hcl];unfold Ae;rw[List.length_map,List.length_append,List.length_take,List.length_drop];omega
  have S2:SimH J (fun _=>some (k,0)) [(300000,⟨false,false,true,false,1,c.take i.toNat++(c.take n).drop j.toNat,false,some (3,140737488355328),0,0⟩)] (Go.Sort.putRow (Value.int .i64) (Go.Sort.ahead w q) k 0 nw.toArray):=by
   refine S.oneB kJ (by rw[O.size];exact Nat.le_refl _) rfl (.inr ⟨k,0,_,ty,fr,rfl,O.new,⟨by rw[O.sz];exact k2.1,fun t m ht=>?_⟩,?_,⟨fun _=>hrc,fun hp=>by cases hp⟩,fun _ g hj=>unJ g hj,fun hp=>by cases hp⟩)
   ·simp at ht;obtain⟨rfl,rfl⟩:=ht
    rw[O.sz];exact⟨hty,rfl,hsz⟩
   ·show 0+(c.take i.toNat++(c.take n).drop j.toNat).length≤_
    rw[hlen,O.sz];omega
  have hmut:eV β [(100000,(⟨false,false,true,false,1,c,false,some (3,140737488355328),0,0⟩:Blk))] k:=⟨100000,_,hb,rfl,rfl,Terr.at hβ⟩
  refine⟨_,J,fun _=>some (k,0),rfl,⟨S2,O.os,O.tape,O.output,by rw[O.size];exact Nat.le_refl _,fun q2 _ hm=>O.other q2 (fun e=>by subst e;exact hm hmut),fun q2 hm _=>?_,fun _ _ h=>h,fun _ _ h=>.inl h,fun q2=>?_,fun b x0 x h0 hx _=>?_,fun b x hx=>by obtain⟨rfl,rfl⟩:=B5 hx;rfl⟩,?_⟩
  ·obtain⟨b,y,hy,_,_,ht⟩:=hm
   obtain⟨rfl,rfl⟩:=B5 hy
   obtain⟨o2,ho2⟩:=ht.ord rfl
   simp at ho2;obtain⟨rfl,_⟩:=ho2;exact hmut
  ·by_cases e:q2=k
   ·subst e;show Am w q2≤_;rw[A0 O.old,A0 O.new,O.sz];exact Nat.le_refl _
   ·show Am w q2≤_;simp only[Am,O.other q2 e];exact Nat.le_refl _
  ·obtain⟨rfl,rfl⟩:=B5 h0
   obtain⟨h9,_⟩:=B5 hx
   omega
  ·rw[Rep]
   refine⟨⟨false,false,true,false,1,c.take i.toNat++(c.take n).drop j.toNat,false,some (3,140737488355328),0,0⟩,_,cap,⟨F0,rfl⟩,by rw[show n - (j - i).toNat=n - (j.toNat - i.toNat) by omega],by omega,.inr ⟨k,0,rfl,.inr ⟨rfl,?_,?_⟩⟩⟩
   ·rw[A0 O.new,O.sz];exact g1
   ·show 0+(n - (j - i).toNat)*1≤(c.take i.toNat++(c.take n).drop j.toNat).length
    rw[hlen];omega
 ·simp at hh
end Gx

namespace Gx
open Go Go.Proofs
open IntKind (wrap)
set_option maxRecDepth 100000
noncomputable section
variable {R:Type} (N:Nat)
def F7 (N:Nat) (k0:Int→Int→Int→LA→O R) (r0:Nat→Int→LA→LA→O R) (b:Nat) (c:Int) (d:Nat) (e g:Int) (f:LA) (k1:Int→Int→Nat→Int→Int→LA→O R) (q r:Int) (s:Nat) (t p:Int) (m:LA):O R :=
 (cond (decide (p<t)) (cond (Af p s) (Ch .i64 (f.drop (0+((p.toNat)*1))) fun u=>(cond (Af e b) (fe (m.drop (e.toNat)) fun aa=>(cond (!(CB aa u)) (cond (Af e b) (cond (Af u b) (fe (m.drop (e.toNat)) fun w=>(cond (Nat.beq (e.toNat) (e.toNat)) (rB ((m.set (e.toNat) (A6 (Mm w u) 1 0)).drop (e.toNat)) fun x=>(fe (((m.set (e.toNat) (A6 (Mm w u) 1 0)).set (e.toNat) (A6 x 0 0)).drop (u.toNat)) fun y=>(cond (Nat.beq (u.toNat) (u.toNat)) (rB ((((m.set (e.toNat) (A6 (Mm w u) 1 0)).set (e.toNat) (A6 x 0 0)).set (u.toNat) (A6 (Mm y e) 1 0)).drop (u.toNat)) fun ab=>(k1 (wrap .i64 (q+1)) r s t (wrap .i64 (p+1)) ((((m.set (e.toNat) (A6 (Mm w u) 1 0)).set (e.toNat) (A6 x 0 0)).set (u.toNat) (A6 (Mm y e) 1 0)).set (u.toNat) (A6 ab 0 0)))) none))) none)) none) none) (k1 q r s t (wrap .i64 (p+1)) m))) none)) none) (k0 q g (wrap .i64 (r+1)) m))
def B8 (k0:Int→Int→Int→LA→O R) (r0:Nat→Int→LA→LA→O R) (b:Nat) (c:Int) (d:Nat) (e g:Int) (f:LA):Nat→Int→Int→Nat→Int→Int→LA→O R
 | 0,_,_,_,_,_,_=>none
 | n+1,q,r,s,t,p,m=>(F7 N k0 r0 b c d e g f (B8 k0 r0 b c d e g f n) q r s t p m)
def F8 (N:Nat) (r0:Nat→Int→LA→LA→O R) (b:Nat) (c:Int) (d:Nat) (f:LA) (k0:Int→Int→Int→LA→O R) (q1:Int→Int→Int→Nat→Int→Int→LA→O R) (o g i:Int) (l:LA):O R :=
 (cond (decide (i<g)) (cond (Af i d) (Ch .i64 (f.drop (0+((i.toNat)*1))) fun e=>(cond (Af e b) (fe (l.drop (e.toNat)) fun z=>(cond (Af c b) (fe ((l.set (e.toNat) (A6 (SY z c) 0 0)).drop (c.toNat)) fun ac=>(cond ((decide ((0:Int)≤(0:Int)))&&((decide (0≤i))&&((decide (i≤((d:Nat):Int)))&&(decide (((d:Nat):Int)≤((d:Nat):Int)))))) (q1 e o i (i.toNat) (((i.toNat):Nat):Int) 0 ((l.set (e.toNat) (A6 (SY z c) 0 0)).set (c.toNat) (A6 (SY ac e) 0 0))) none)) none)) none)) none) (r0 d o l f))
def A8 (r0:Nat→Int→LA→LA→O R) (b:Nat) (c:Int) (d:Nat) (f:LA):Nat→Int→Int→Int→LA→O R
 | 0,_,_,_,_=>none
 | n+1,o,g,i,l=>(F8 N r0 b c d f (A8 r0 b c d f n) (fun e q r s t p m=>(B8 N (A8 r0 b c d f n) r0 b c d e g f N q r s t p m)) o g i l)
def Fk (r0:Nat→Int→LA→LA→O R) (q0:Nat→LA→Int→Int→Int→LA→O R) (b:Nat) (c:Int) (v:LA):O R :=
 (En N b c v (fun d ad f=>(q0 d f 0 ((d:Nat):Int) 0 ad)))
def Bu:=(Ak (fun (N b:Nat) (c:Int) (v:LA) (r0:Nat→Int→LA→LA→O R)=>(Fk N r0 (fun d f o g i l=>(A8 N r0 b c d f N o g i l)) b c v))).1
theorem Kg (b c v r0):(@Bu R N b c v r0)=(Fk N r0 (fun d f o g i l=>(A8 N r0 b c d f N o g i l)) b c v):=by rw[Bu,(Ak _).2]
def Ly:Hints:={ H:=(hS hL (hS hL (hS (hS hL (hS (hP [0,1,4,5,13,14,15] (hS hL (hS hL (hS (hS (hS hL (hS hL (hS hL (hS hL (hS (hP [0,1,4,5,7,13,14,15,32,33,34] hL) hL))))) hL) hL)))) hL)) hL))),nils:=[(4,1)],modes:=[(2,1),(0,0)] }
def M5:Ke:=[(52,Gw N)]
def Lz (F:KF R):=Rt Try.f33 Ly (M5 N) [100000] N F
def A9 (F:KF R):Nat→Int→LA→LA→O R:=(fun ae af ag ah=>F (.tup [(.own 300000 0 ae),(iv af)]) [(100000,⟨false,false,true,false,2,ag,true,none,0,0⟩),(300000,(bQ 1 ah))])
def Zj (b:Nat) (c:Int) (d:Nat) (e g:Int) (f:LA) (q r:Int) (s:Nat) (t p:Int) (m:LA):St:=⟨[(0,(.nd 100000 (.whole b))),(1,(iv c)),(4,(.own 300000 0 d)),(5,(iv q)),(7,(iv e)),(13,(.own 300000 0 d)),(14,(iv g)),(15,(iv r)),(32,(.own 300000 0 s)),(33,(iv t)),(34,(iv p))],[(100000,⟨false,false,true,false,2,m,true,none,0,0⟩),(300000,(bQ 1 f))]⟩
def Zk (F:KF R) (Q0:St→O R):=Lz N F [1,1,0,1,0,0,1,1,0,0,1,1,1,1,0] [Q0]
def Gy (b:Nat) (c:Int) (d:Nat) (f:LA) (o g i:Int) (l:LA):St:=⟨[(0,(.nd 100000 (.whole b))),(1,(iv c)),(4,(.own 300000 0 d)),(5,(iv o)),(13,(.own 300000 0 d)),(14,(iv g)),(15,(iv i))],[(100000,⟨false,false,true,false,2,l,true,none,0,0⟩),(300000,(bQ 1 f))]⟩
def L0 (F:KF R):=Lz N F [1,1,0,1,0] []
theorem I3 (Q0:St→O R) (F:KF R) (b:Nat) (c:Int) (d:Nat) (e g:Int) (f:LA):∀ (n:Nat) (q r:Int) (s:Nat) (t p:Int) (m:LA),Aj (Zk N F Q0) n (Zj b c d e g f q r s t p m)=(B8 N (fun o g i l=>Q0 (Gy b c d f o g i l)) (A9 F) b c d e g f n q r s t p m)
 | 0,_,_,_,_,_,_=>by kernel_rfl
 | n+1,q,r,s,t,p,m=>Eq.trans (by kernel_rfl) (Dc (F7 N (fun o g i l=>Q0 (Gy b c d f o g i l)) (A9 F) b c d e g f · q r s t p m) (funext fun q=>funext fun r=>funext fun s=>funext fun t=>funext fun p=>funext fun m=>(I3 Q0 F b c d e g f n q r s t p m)):_)
theorem I4 (F:KF R) (b:Nat) (c:Int) (d:Nat) (f:LA):∀ (n:Nat) (o g i:Int) (l:LA),Aj (L0 N F) n (Gy b c d f o g i l)=(A8 N (A9 F) b c d f n o g i l)
 | 0,_,_,_,_=>by kernel_rfl
 | n+1,o,g,i,l=>have e0:=(funext fun o=>funext fun g=>funext fun i=>funext fun l=>(I4 F b c d f n o g i l))
  Eq.trans (by kernel_rfl) (bz (F8 N (A9 F) b c d f · · o g i l) e0 (funext fun e=>funext fun q=>funext fun r=>funext fun s=>funext fun t=>funext fun p=>funext fun m=>(Ah ..).trans ((I3 N (Aj (L0 N F) n) F b c d e g f N q r s t p m).trans (Dc (B8 N · (A9 F) b c d e g f N q r s t p m) e0))):_)
theorem L5 (b:Nat) (c:Int) (v:LA) (F:KF R):Ga (M5 N) Ly N 33 [(.nd 100000 (.whole b)),(iv c)] [(100000,⟨false,false,true,false,2,v,true,none,0,0⟩)] F=(Bu N b c v (A9 F)):=by
 rw[Kg]
 exact Eq.trans (by kernel_rfl) (Dc (Fk N (A9 F) · b c v) (funext fun d=>funext fun f=>funext fun o=>funext fun g=>funext fun i=>funext fun l=>(Ah ..).trans (I4 N F b c d f N o g i l)):_)
def Kh (a:LA) (h:Ag) (k:KF R):O R :=
 match a,h with
 | [(.nd 100000 (.whole b)),(.int .i64 c)],[(100000,⟨false,false,true,false,2,v,true,none,0,0⟩)]=>(Bu N b c v (A9 k))
 | _,_=>none
theorem L6:At N 33 @Kh:=by
 intro R Q a h k j;unfold Kh;split;exact Bg (L5 ..) (L5 ..) ⟨Lx N,trivial⟩;exact Bi
def Gz:=Bf (L6 N)
def G0:=Gi (L6 N)
def Ky (k1:Nat→Nat→LA→LA→LA→O R) (r0:Nat→Int→LA→O R) (b:Nat) (k2:Nat→Nat→Int→Nat→Int→Int→LA→LA→LA→O R) (p l:Nat) (f:Int) (w:Nat) (x m:Int) (q o y:LA):O R :=
 (cond (decide (m<x)) (cond (Af m w) (Ch .i64 (o.drop (0+((m.toNat)*1))) fun ab=>(cond (Af ab b) (fe (q.drop (ab.toNat)) fun ae=>(cond (Af f p) (Ch .i64 (o.drop (0+((f.toNat)*1))) fun ac=>(cond (Af ac b) (fe (q.drop (ac.toNat)) fun af=>(cond (decide (((ae.length:Nat):Int)<((af.length:Nat):Int))) (k2 p l m w x (wrap .i64 (m+1)) q o y) (k2 p l f w x (wrap .i64 (m+1)) q o y))) none)) none)) none)) none) (cond (Af f p) (Ch .i64 (o.drop (0+((f.toNat)*1))) fun ad=>(In N p f (wrap .i64 (f+1)) o (fun ag ah=>(Bu N b ad q (fun an ao ai ap=>(cond ((Nat.ble (l+1) 140737488355328)&&(Nat.ble ((l+1)*8) 140737488355328)) (k1 ag (l+1) ai ah ((y.take (l*1))++[(.int .i64 ad)])) none)))))) none))
def Ef (k1:Nat→Nat→LA→LA→LA→O R) (r0:Nat→Int→LA→O R) (b:Nat):Nat→Nat→Nat→Int→Nat→Int→Int→LA→LA→LA→O R
 | 0,_,_,_,_,_,_,_,_,_=>none
 | n+1,p,l,f,w,x,m,q,o,y=>(Ky N k1 r0 b (Ef k1 r0 b n) p l f w x m q o y)
def Kz (N:Nat) (r0:Nat→Int→LA→O R) (b:Nat) (k1:Nat→Nat→LA→LA→LA→O R) (q2:Nat→Nat→Int→Nat→Int→Int→LA→LA→LA→O R) (g r:Nat) (t u s:LA):O R :=
 (cond (decide (((g:Nat):Int)>0)) (q2 g r 0 g ((g:Nat):Int) 0 t u s) (r0 r 0 s))
def Eg (r0:Nat→Int→LA→O R) (b:Nat):Nat→Nat→Nat→LA→LA→LA→O R
 | 0,_,_,_,_,_=>none
 | n+1,g,r,t,u,s=>(Kz N r0 b (Eg r0 b n) (fun p l f w x m q o y=>(Ef N (Eg r0 b n) r0 b N p l f w x m q o y)) g r t u s)
def K0 (N:Nat) (r0:Nat→Int→LA→O R) (c:LA) (b:Nat) (e d:Bool) (z:LA) (k0:Int→Int→LA→O R) (q1:Nat→Nat→LA→LA→LA→O R) (aa i:Int) (v:LA):O R :=
 (cond (decide (i<aa)) (cond (Af i b) (cond ((Nat.beq 1 1)&&((Nat.ble ((0+((i.toNat)*1))+1) (v.length))&&(!false))) (k0 aa (wrap .i64 (i+1)) (v.set (0+((i.toNat)*1)) (.int .i64 i))) none) none) (cond ((decide ((0:Int)≤(0:Int)))&&((decide (0≤((b:Nat):Int)))&&((decide (((b:Nat):Int)≤140737488355328))&&(decide ((((b:Nat):Int)*((8:Nat):Int))≤140737488355328))))) (q1 b 0 z v []) none))
def Eh (r0:Nat→Int→LA→O R) (c:LA) (b:Nat) (e d:Bool) (z:LA):Nat→Int→Int→LA→O R
 | 0,_,_,_=>none
 | n+1,aa,i,v=>(K0 N r0 c b e d z (Eh r0 c b e d z n) (fun g r t u s=>(Eg N r0 b N g r t u s)) aa i v)
def Lo (r0:Nat→Int→LA→O R) (q0:LA→Int→Int→LA→O R) (c:LA) (b:Nat) (e d:Bool):O R :=
 (Gu N c b false d (fun aj=>(cond (!aj) (r0 0 1 []) (Gv N c b false d (fun z=>(cond ((decide (0≤((b:Nat):Int)))&&((decide (((b:Nat):Int)≤((b:Nat):Int)))&&((decide (((b:Nat):Int)≤140737488355328))&&((decide ((((b:Nat):Int)*((8:Nat):Int))≤140737488355328))&&(Nat.beq 1 1))))) (q0 z ((b:Nat):Int) 0 (List.replicate b (.int .i64 0))) none))))))
def Hg:=(Ak (fun (N:Nat) (c:LA) (b:Nat) (e d:Bool) (r0:Nat→Int→LA→O R)=>(Lo N r0 (fun z aa i v=>(Eh N r0 c b e d z N aa i v)) c b e d))).1
theorem Tn (c b e d r0):(@Hg R N c b e d r0)=(Lo N r0 (fun z aa i v=>(Eh N r0 c b e d z N aa i v)) c b e d):=by rw[Hg,(Ak _).2]
def Ww:Hints:={ H:=(hS hL (hS hL (hS hL (hS hL (hS (hS hL (hS (hP [0,4,5,21,22] hL) hL)) (hS hL (hS (hS (hP [4,5,7] (hS hL (hS (hS hL (hS (hS hL (hS (hP [4,5,7,8,36,37,38] hL) hL)) hL)) hL))) hL) hL))))))),nils:=[(2,1)],modes:=[(2,1),(0,0)],cob:=[3000019] }
def Zl:Ke:=[(30,Qu N),(32,Ry N),(41,Kf N),(33,Gz N)]
def Ms (F:KF R):=Rt Try.f21 Ww (Zl N) [] N F
def Bn (F:KF R):Nat→Int→LA→O R:=(fun ak al am=>F (.tup [(.own 300000 0 ak),(iv al)]) (hq [(bQ 1 am)]))
def RE (b p l:Nat) (f:Int) (w:Nat) (x m:Int) (q o y:LA):St:=⟨[(4,(.nd 300000 (.whole b))),(5,(.own 300001 0 p)),(7,(.own 300002 0 l)),(8,(iv f)),(36,(.own 300001 0 w)),(37,(iv x)),(38,(iv m))],(hq [⟨false,false,true,false,2,q,true,none,0,0⟩,⟨false,false,true,false,1,o,false,(some (3,140737488355328)),0,0⟩,(bQ 1 y)])⟩
def RF (F:KF R) (Q1:St→O R):=Ms N F [1,1,1,1,1,1,0,0,0,1,0,1,0,1,0] [Q1]
def Mt (b g r:Nat) (t u s:LA):St:=⟨[(4,(.nd 300000 (.whole b))),(5,(.own 300001 0 g)),(7,(.own 300002 0 r))],(hq [⟨false,false,true,false,2,t,true,none,0,0⟩,⟨false,false,true,false,1,u,false,(some (3,140737488355328)),0,0⟩,(bQ 1 s)])⟩
def Wx (F:KF R):=Ms N F [1,1,1,1,1,1,0,0] []
def RG (c:LA) (b:Nat) (e d:Bool) (z:LA) (aa i:Int) (v:LA):St:=⟨[(0,(.imm c b 1 e d)),(4,(.nd 300000 (.whole b))),(5,(.own 300001 0 b)),(21,(iv aa)),(22,(iv i))],(hq [⟨false,false,true,false,2,z,true,none,0,0⟩,⟨false,false,true,false,1,v,false,(some (3,140737488355328)),0,0⟩])⟩
def RH (F:KF R):=Ms N F [1,1,1,1,0,1,0] []
theorem O7 (Q1:St→O R) (F:KF R) (b:Nat):∀ (n:Nat) (p l:Nat) (f:Int) (w:Nat) (x m:Int) (q o y:LA),Aj (RF N F Q1) n (RE b p l f w x m q o y)=(Ef N (fun g r t u s=>Q1 (Mt b g r t u s)) (Bn F) b n p l f w x m q o y)
 | 0,_,_,_,_,_,_,_,_,_=>by kernel_rfl
 | n+1,p,l,f,w,x,m,q,o,y=>Eq.trans (by kernel_rfl) (Dc (Ky N (fun g r t u s=>Q1 (Mt b g r t u s)) (Bn F) b · p l f w x m q o y) (funext fun p=>funext fun l=>funext fun f=>funext fun w=>funext fun x=>funext fun m=>funext fun q=>funext fun o=>funext fun y=>(O7 Q1 F b n p l f w x m q o y)):_)
theorem O8 (F:KF R) (b:Nat):∀ (n:Nat) (g r:Nat) (t u s:LA),Aj (Wx N F) n (Mt b g r t u s)=(Eg N (Bn F) b n g r t u s)
 | 0,_,_,_,_,_=>by kernel_rfl
 | n+1,g,r,t,u,s=>have e0:=(funext fun g=>funext fun r=>funext fun t=>funext fun u=>funext fun s=>(O8 F b n g r t u s))
  Eq.trans (by kernel_rfl) (bz (Kz N (Bn F) b · · g r t u s) e0 (funext fun p=>funext fun l=>funext fun f=>funext fun w=>funext fun x=>funext fun m=>funext fun q=>funext fun o=>funext fun y=>(Ah ..).trans ((O7 N (Aj (Wx N F) n) F b N p l f w x m q o y).trans (Dc (Ef N · (Bn F) b N p l f w x m q o y) e0))):_)
theorem O9 (F:KF R) (c:LA) (b:Nat) (e d:Bool) (z:LA):∀ (n:Nat) (aa i:Int) (v:LA),Aj (RH N F) n (RG c b e d z aa i v)=(Eh N (Bn F) c b e d z n aa i v)
 | 0,_,_,_=>by kernel_rfl
 | n+1,aa,i,v=>Eq.trans (by kernel_rfl) (bz (K0 N (Bn F) c b e d z · · aa i v) (funext fun aa=>funext fun i=>funext fun v=>(O9 F c b e d z n aa i v)) (funext fun g=>funext fun r=>funext fun t=>funext fun u=>funext fun s=>(Ah ..).trans (O8 N F b N g r t u s)):_)
theorem Wy (c:LA) (b:Nat) (e d:Bool) (F:KF R):Ga (Zl N) Ww N 21 [(.imm c b 1 e d)] [] F=(Hg N c b e d (Bn F)):=by
 rw[Tn]
 exact Eq.trans (by kernel_rfl) (Dc (Lo N (Bn F) · c b e d) (funext fun z=>funext fun aa=>funext fun i=>funext fun v=>(Ah ..).trans (O9 N F c b e d z N aa i v)):_)
def To (a:LA) (h:Ag) (k:KF R):O R :=
 match a,h with
 | [(.imm c b 1 e d)],[]=>(Hg N c b e d (Bn k))
 | _,_=>none
theorem Wz:At N 21 @To:=by
 intro R Q a h k j;unfold To;split;exact Bg (Wy ..) (Wy ..) ⟨Qv N,Rz N,Xt N,G0 N,trivial⟩;exact Bi
def RI:=Bf (Wz N)
def RK:=Gi (Wz N)
def K1 (N:Nat) (r0:Nat→Bool→LA→O R) (b:Int) (g:Nat) (d:LA) (c:Nat) (e f:Bool) (k1:Int→Int→LA→O R) (q l:Int) (o:LA):O R :=
 (cond (decide (l<q)) (cond (Af l c) (Ch .i64 (d.drop ((l.toNat)*1)) fun r=>(cond ((decide (r<0))==false) (cond ((cond false true (decide (r≥b)))==false) (cond (Af r g) (Ch .i64 (o.drop (0+((r.toNat)*1))) fun s=>(cond (cond false true (decide (s≥0))) (r0 0 false []) (cond (Af r g) (cond ((Nat.beq 1 1)&&((Nat.ble ((0+((r.toNat)*1))+1) (o.length))&&(!false))) (k1 q (wrap .i64 (l+1)) (o.set (0+((r.toNat)*1)) (.int .i64 l))) none) none))) none) (r0 0 false [])) (r0 0 false []))) none) (r0 g true o))
def Fv (r0:Nat→Bool→LA→O R) (b:Int) (g:Nat) (d:LA) (c:Nat) (e f:Bool):Nat→Int→Int→LA→O R
 | 0,_,_,_=>none
 | n+1,q,l,o=>(K1 N r0 b g d c e f (Fv r0 b g d c e f n) q l o)
def K2 (N:Nat) (r0:Nat→Bool→LA→O R) (d:LA) (c:Nat) (e f:Bool) (b:Int) (k0:Nat→Int→Int→LA→O R) (q1:Int→Int→LA→O R) (g:Nat) (p i:Int) (m:LA):O R :=
 (cond (decide (i<p)) (cond (Af i g) (cond ((Nat.beq 1 1)&&((Nat.ble ((0+((i.toNat)*1))+1) (m.length))&&(!false))) (k0 g p (wrap .i64 (i+1)) (m.set (0+((i.toNat)*1)) (.int .i64 (-1)))) none) none) (q1 ((c:Nat):Int) 0 m))
def Ei (r0:Nat→Bool→LA→O R) (d:LA) (c:Nat) (e f:Bool) (b:Int):Nat→Nat→Int→Int→LA→O R
 | 0,_,_,_,_=>none
 | n+1,g,p,i,m=>(K2 N r0 d c e f b (Ei r0 d c e f b n) (fun q l o=>(Fv N r0 b g d c e f N q l o)) g p i m)
def Lp (N:Nat) (r0:Nat→Bool→LA→O R) (q0:Nat→Int→Int→LA→O R) (d:LA) (c:Nat) (e f:Bool) (b:Int):O R :=
 (cond (((c:Nat):Int) != b) (r0 0 false []) (cond ((decide (0≤b))&&((decide (b≤b))&&((decide (b≤140737488355328))&&(decide ((b*((8:Nat):Int))≤140737488355328))))) (q0 (b.toNat) (((b.toNat):Nat):Int) 0 (List.replicate (b.toNat) (.int .i64 0))) none))
def Fl:=(Ak (fun (N:Nat) (d:LA) (c:Nat) (e f:Bool) (b:Int) (r0:Nat→Bool→LA→O R)=>(Lp N r0 (fun g p i m=>(Ei N r0 d c e f b N g p i m)) d c e f b))).1
theorem Tp (d c e f b r0):(@Fl R N d c e f b r0)=(Lp N r0 (fun g p i m=>(Ei N r0 d c e f b N g p i m)) d c e f b):=by rw[Fl,(Ak _).2]
def W0:Hints:={ H:=(hS hL (hS hL (hS hL (hS (hS hL (hS (hP [0,1,6,17,18] hL) hL)) (hS (hS hL (hS (hP [1,6,25,26,27] hL) hL)) hL))))),nils:=[(4,1)],modes:=[(2,1),(0,0)] }
def W1 (F:KF R):=Rt Try.f31 W0 [] [] N F
def C9 (F:KF R):Nat→Bool→LA→O R:=(fun t u v=>F (.tup [(.own 300000 0 t),(.bool u)]) (hq [(bQ 1 v)]))
def RL (b:Int) (g:Nat) (d:LA) (c:Nat) (e f:Bool) (q l:Int) (o:LA):St:=⟨[(1,(iv b)),(6,(.own 300000 0 g)),(25,(.imm d c 1 e f)),(26,(iv q)),(27,(iv l))],(hq [(bQ 1 o)])⟩
def RM (F:KF R):=W1 N F [1,1,1,1,0,1,0] []
def RN (d:LA) (c:Nat) (e f:Bool) (b:Int) (g:Nat) (p i:Int) (m:LA):St:=⟨[(0,(.imm d c 1 e f)),(1,(iv b)),(6,(.own 300000 0 g)),(17,(iv p)),(18,(iv i))],(hq [(bQ 1 m)])⟩
def RO (F:KF R):=W1 N F [1,1,1,0,1,0] []
theorem Pa (F:KF R) (b:Int) (g:Nat) (d:LA) (c:Nat) (e f:Bool):∀ (n:Nat) (q l:Int) (o:LA),Aj (RM N F) n (RL b g d c e f q l o)=(Fv N (C9 F) b g d c e f n q l o)
 | 0,_,_,_=>by kernel_rfl
 | n+1,q,l,o=>Eq.trans (by kernel_rfl) (Dc (K1 N (C9 F) b g d c e f · q l o) (funext fun q=>funext fun l=>funext fun o=>(Pa F b g d c e f n q l o)):_)
theorem Pb (F:KF R) (d:LA) (c:Nat) (e f:Bool) (b:Int):∀ (n g:Nat) (p i:Int) (m:LA),Aj (RO N F) n (RN d c e f b g p i m)=(Ei N (C9 F) d c e f b n g p i m)
 | 0,_,_,_,_=>by kernel_rfl
 | n+1,g,p,i,m=>Eq.trans (by kernel_rfl) (bz (K2 N (C9 F) d c e f b · · g p i m) (funext fun g=>funext fun p=>funext fun i=>funext fun m=>(Pb F d c e f b n g p i m)) (funext fun q=>funext fun l=>funext fun o=>(Ah ..).trans (Pa N F b g d c e f N q l o)):_)
theorem W2 (d:LA) (c:Nat) (e f:Bool) (b:Int) (F:KF R):Ga [] W0 N 31 [(.imm d c 1 e f),(iv b)] [] F=(Fl N d c e f b (C9 F)):=by
 rw[Tp]
 exact Eq.trans (by kernel_rfl) (Dc (Lp N (C9 F) · d c e f b) (funext fun g=>funext fun p=>funext fun i=>funext fun m=>(Ah ..).trans (Pb N F d c e f b N g p i m)):_)
def Tq (a:LA) (h:Ag) (k:KF R):O R :=
 match a,h with
 | [(.imm d c 1 e f),(.int .i64 b)],[]=>(Fl N d c e f b (C9 k))
 | _,_=>none
theorem W3:At N 31 @Tq:=by
 intro R Q a h k j;unfold Tq;split;exact Bg (W2 ..) (W2 ..) trivial;exact Bi
def W4:=Bf (W3 N)
def W5:=Gi (W3 N)
def Zm (N:Nat) (k0:Int→Int→LA→LA→O R) (r0:Nat→Int→LA→O R) (g b:Nat) (m:Int) (d:LA) (c:Nat) (f e:Bool) (i:Int) (v:Nat) (l w x:LA) (k1:Int→Int→Int→LA→O R) (t u r:Int) (p:LA):O R :=
 (cond (decide (r<u)) (cond (Af r v) (Ch .i64 (x.drop (0+((r.toNat)*1))) fun ab=>(cond (Af m b) (Ch .i64 (p.drop (0+((m.toNat)*1))) fun ad=>(cond ((decide (ad<0))==false) (cond (Af ab g) (Ch .i64 (l.drop (0+((ab.toNat)*1))) fun ae=>(cond (Af m b) (Ch .i64 (p.drop (0+((m.toNat)*1))) fun ac=>(cond (Af ac g) (Ch .i64 (l.drop (0+((ac.toNat)*1))) fun af=>(cond (cond false true (decide (ae<af))) (cond (Af m b) (cond ((Nat.beq 1 1)&&((Nat.ble ((0+((m.toNat)*1))+1) (p.length))&&(!false))) (k1 t u (wrap .i64 (r+1)) (p.set (0+((m.toNat)*1)) (.int .i64 ab))) none) none) (k1 t u (wrap .i64 (r+1)) p))) none)) none)) none) (cond (Af m b) (cond ((Nat.beq 1 1)&&((Nat.ble ((0+((m.toNat)*1))+1) (p.length))&&(!false))) (k1 t u (wrap .i64 (r+1)) (p.set (0+((m.toNat)*1)) (.int .i64 ab))) none) none))) none)) none) (k0 i (wrap .i64 (t+1)) w p))
def Io (k0:Int→Int→LA→LA→O R) (r0:Nat→Int→LA→O R) (g b:Nat) (m:Int) (d:LA) (c:Nat) (f e:Bool) (i:Int) (v:Nat) (l w x:LA):Nat→Int→Int→Int→LA→O R
 | 0,_,_,_,_=>none
 | n+1,t,u,r,p=>(Zm N k0 r0 g b m d c f e i v l w x (Io k0 r0 g b m d c f e i v l w x n) t u r p)
def Zn (r0:Nat→Int→LA→O R) (g b:Nat) (d:LA) (c:Nat) (f e:Bool) (l:LA) (k0:Int→Int→LA→LA→O R) (q1:Int→Nat→LA→LA→Int→Int→Int→LA→O R) (i o:Int) (s q:LA):O R :=
 (cond (decide (o<i)) (cond (Af o c) (Ch .i64 (d.drop ((o.toNat)*1)) fun m=>(cond (Af m b) (cond ((Nat.beq 1 1)&&((Nat.ble ((0+((m.toNat)*1))+1) (q.length))&&(!false))) (Bu N b m s (fun v am w x=>(q1 m v w x o ((v:Nat):Int) 0 (q.set (0+((m.toNat)*1)) (.int .i64 (-1)))))) none) none)) none) (r0 b 0 q))
def Ip (r0:Nat→Int→LA→O R) (g b:Nat) (d:LA) (c:Nat) (f e:Bool) (l:LA):Nat→Int→Int→LA→LA→O R
 | 0,_,_,_,_=>none
 | n+1,i,o,s,q=>(Zn N r0 g b d c f e l (Ip r0 g b d c f e l n) (fun m v w x t u r p=>(Io N (Ip r0 g b d c f e l n) r0 g b m d c f e i v l w x N t u r p)) i o s q)
def IF (r0:Nat→Int→LA→O R) (q0:Nat→LA→Int→Int→LA→LA→O R) (y:LA) (b:Nat) (aa z:Bool) (d:LA) (c:Nat) (f e:Bool):O R :=
 (Gu N y b false z (fun ag=>(cond (!ag) (r0 0 1 []) (Fl N d c false e ((b:Nat):Int) (fun g ah l=>(cond (!ah) (r0 0 11 []) (Gv N y b false z (fun ai=>(cond ((decide (0≤((b:Nat):Int)))&&((decide (((b:Nat):Int)≤((b:Nat):Int)))&&((decide (((b:Nat):Int)≤140737488355328))&&(decide ((((b:Nat):Int)*((8:Nat):Int))≤140737488355328))))) (q0 g l ((c:Nat):Int) 0 ai (List.replicate b (.int .i64 0))) none)))))))))
def BP:=(Ak (fun (N:Nat) (y:LA) (b:Nat) (aa z:Bool) (d:LA) (c:Nat) (f e:Bool) (r0:Nat→Int→LA→O R)=>(IF N r0 (fun g l i o s q=>(Ip N r0 g b d c f e l N i o s q)) y b aa z d c f e))).1
theorem PO (y b aa z d c f e r0):(@BP R N y b aa z d c f e r0)=(IF N r0 (fun g l i o s q=>(Ip N r0 g b d c f e l N i o s q)) y b aa z d c f e):=by rw[BP,(Ak _).2]
def XY:Hints:={ H:=(hS hL (hS hL (hS hL (hS hL (hS hL (hS hL (hS (hS hL (hS (hP [6,8,9,33,34,35] (hS hL (hS hL (hS (hS (hS hL (hS hL (hS hL (hS hL (hS (hP [6,8,9,11,33,34,35,48,49,50] hL) hL))))) hL) hL)))) hL)) hL))))))),nils:=[(4,1)],modes:=[(2,1),(0,0)] }
def cR:Ke:=[(30,Qu N),(31,W4 N),(32,Ry N),(33,Gz N)]
def XZ (F:KF R):=Rt Try.f11 XY (cR N) [] N F
def G1 (F:KF R):Nat→Int→LA→O R:=(fun aj ak al=>F (.tup [(.own 300000 0 aj),(iv ak)]) (hq [(bQ 1 al)]))
def jc (g b:Nat) (m:Int) (d:LA) (c:Nat) (f e:Bool) (i:Int) (v:Nat) (l w x:LA) (t u r:Int) (p:LA):St:=⟨[(6,(.own 300000 0 g)),(8,(.nd 300001 (.whole b))),(9,(.own 300002 0 b)),(11,(iv m)),(33,(.imm d c 1 f e)),(34,(iv i)),(35,(iv t)),(48,(.own 300003 0 v)),(49,(iv u)),(50,(iv r))],(hq [(bQ 1 l),⟨false,false,true,false,2,w,true,none,0,0⟩,(bQ 1 p),(bQ 1 x)])⟩
def jd (F:KF R) (Q0:St→O R):=XZ N F [1,1,1,1,1,1,0,1,0,0,1,1,0,0,1,1,1,1,0] [Q0]
def FI (g b:Nat) (d:LA) (c:Nat) (f e:Bool) (l:LA) (i o:Int) (s q:LA):St:=⟨[(6,(.own 300000 0 g)),(8,(.nd 300001 (.whole b))),(9,(.own 300002 0 b)),(33,(.imm d c 1 f e)),(34,(iv i)),(35,(iv o))],(hq [(bQ 1 l),⟨false,false,true,false,2,s,true,none,0,0⟩,(bQ 1 q)])⟩
def X_ (F:KF R):=XZ N F [1,1,1,1,1,1,0,1,0] []
theorem EA (Q0:St→O R) (F:KF R) (g b:Nat) (m:Int) (d:LA) (c:Nat) (f e:Bool) (i:Int) (v:Nat) (l w x:LA):∀ (n:Nat) (t u r:Int) (p:LA),Aj (jd N F Q0) n (jc g b m d c f e i v l w x t u r p)=(Io N (fun i o s q=>Q0 (FI g b d c f e l i o s q)) (G1 F) g b m d c f e i v l w x n t u r p)
 | 0,_,_,_,_=>by kernel_rfl
 | n+1,t,u,r,p=>Eq.trans (by kernel_rfl) (Dc (Zm N (fun i o s q=>Q0 (FI g b d c f e l i o s q)) (G1 F) g b m d c f e i v l w x · t u r p) (funext fun t=>funext fun u=>funext fun r=>funext fun p=>(EA Q0 F g b m d c f e i v l w x n t u r p)):_)
theorem EB (F:KF R) (g b:Nat) (d:LA) (c:Nat) (f e:Bool) (l:LA):∀ (n:Nat) (i o:Int) (s q:LA),Aj (X_ N F) n (FI g b d c f e l i o s q)=(Ip N (G1 F) g b d c f e l n i o s q)
 | 0,_,_,_,_=>by kernel_rfl
 | n+1,i,o,s,q=>have e0:=(funext fun i=>funext fun o=>funext fun s=>funext fun q=>(EB F g b d c f e l n i o s q))
  Eq.trans (by kernel_rfl) (bz (Zn N (G1 F) g b d c f e l · · i o s q) e0 (funext fun m=>funext fun v=>funext fun w=>funext fun x=>funext fun t=>funext fun u=>funext fun r=>funext fun p=>(Ah ..).trans ((EA N (Aj (X_ N F) n) F g b m d c f e i v l w x N t u r p).trans (Dc (Io N · (G1 F) g b m d c f e i v l w x N t u r p) e0))):_)
theorem X' (y:LA) (b:Nat) (aa z:Bool) (d:LA) (c:Nat) (f e:Bool) (F:KF R):Ga (cR N) XY N 11 [(.imm y b 1 aa z),(.imm d c 1 f e)] [] F=(BP N y b aa z d c f e (G1 F)):=by
 rw[PO]
 exact Eq.trans (by kernel_rfl) (Dc (IF N (G1 F) · y b aa z d c f e) (funext fun g=>funext fun l=>funext fun i=>funext fun o=>funext fun s=>funext fun q=>(Ah ..).trans (EB N F g b d c f e l N i o s q)):_)
def PP (a:LA) (h:Ag) (k:KF R):O R :=
 match a,h with
 | [(.imm y b 1 aa z),(.imm d c 1 f e)],[]=>(BP N y b aa z d c f e (G1 k))
 | _,_=>none
theorem YA:At N 11 @PP:=by
 intro R Q a h k j;unfold PP;split;exact Bg (X' ..) (X' ..) ⟨Qv N,W5 N,Rz N,G0 N,trivial⟩;exact Bi
def je:=Bf (YA N)
def jf:=Gi (YA N)
def Zo (r0:Int→Int→O R) (b:Nat) (d:LA) (c:Nat) (f e:Bool) (k0:Int→Int→Int→LA→O R) (i l g:Int) (m:LA):O R :=
 (cond (decide (g<l)) (cond (Af g c) (Ch .i64 (d.drop ((g.toNat)*1)) fun r=>(Bu N b r m (fun z s t aa=>(k0 (wrap .i64 (i+s)) l (wrap .i64 (g+1)) t)))) none) (r0 i 0))
def K3 (r0:Int→Int→O R) (b:Nat) (d:LA) (c:Nat) (f e:Bool):Nat→Int→Int→Int→LA→O R
 | 0,_,_,_,_=>none
 | n+1,i,l,g,m=>(Zo N r0 b d c f e (K3 r0 b d c f e n) i l g m)
def IG (r0:Int→Int→O R) (q0:Int→Int→Int→LA→O R) (o:LA) (b:Nat) (q p:Bool) (d:LA) (c:Nat) (f e:Bool):O R :=
 (Gu N o b false p (fun u=>(cond (!u) (r0 0 1) (Fl N d c false e ((b:Nat):Int) (fun ab v ac=>(cond (!v) (r0 0 11) (Gv N o b false p (fun w=>(q0 0 ((c:Nat):Int) 0 w)))))))))
def BQ:=(Ak (fun (N:Nat) (o:LA) (b:Nat) (q p:Bool) (d:LA) (c:Nat) (f e:Bool) (r0:Int→Int→O R)=>(IG N r0 (fun i l g m=>(K3 N r0 b d c f e N i l g m)) o b q p d c f e))).1
theorem PQ (o b q p d c f e r0):(@BQ R N o b q p d c f e r0)=(IG N r0 (fun i l g m=>(K3 N r0 b d c f e N i l g m)) o b q p d c f e):=by rw[BQ,(Ak _).2]
def YB:Hints:={ H:=(hS hL (hS hL (hS hL (hS hL (hS hL (hS (hS hL (hS (hP [8,9,28,29,30] hL) hL)) hL)))))) }
def cS:Ke:=[(30,Qu N),(31,W4 N),(32,Ry N),(33,Gz N)]
def jg (F:KF R):=Rt Try.f14 YB (cS N) [] N F
def Pc (F:KF R):Int→Int→O R:=(fun x y=>F (.tup [(iv x),(iv y)]) [])
def jh (b:Nat) (d:LA) (c:Nat) (f e:Bool) (i l g:Int) (m:LA):St:=⟨[(8,(.nd 300000 (.whole b))),(9,(iv i)),(28,(.imm d c 1 f e)),(29,(iv l)),(30,(iv g))],(hq [⟨false,false,true,false,2,m,true,none,0,0⟩])⟩
def ji (F:KF R):=jg N F [1,1,1,1,1,0,1,0] []
theorem EC (F:KF R) (b:Nat) (d:LA) (c:Nat) (f e:Bool):∀ (n:Nat) (i l g:Int) (m:LA),Aj (ji N F) n (jh b d c f e i l g m)=(K3 N (Pc F) b d c f e n i l g m)
 | 0,_,_,_,_=>by kernel_rfl
 | n+1,i,l,g,m=>Eq.trans (by kernel_rfl) (Dc (Zo N (Pc F) b d c f e · i l g m) (funext fun i=>funext fun l=>funext fun g=>funext fun m=>(EC F b d c f e n i l g m)):_)
theorem YC (o:LA) (b:Nat) (q p:Bool) (d:LA) (c:Nat) (f e:Bool) (F:KF R):Ga (cS N) YB N 14 [(.imm o b 1 q p),(.imm d c 1 f e)] [] F=(BQ N o b q p d c f e (Pc F)):=by
 rw[PQ]
 exact Eq.trans (by kernel_rfl) (Dc (IG N (Pc F) · o b q p d c f e) (funext fun i=>funext fun l=>funext fun g=>funext fun m=>(Ah ..).trans (EC N F b d c f e N i l g m)):_)
def PR (a:LA) (h:Ag) (k:KF R):O R :=
 match a,h with
 | [(.imm o b 1 q p),(.imm d c 1 f e)],[]=>(BQ N o b q p d c f e (Pc k))
 | _,_=>none
theorem YD:At N 14 @PR:=by
 intro R Q a h k j;unfold PR;split;exact Bg (YC ..) (YC ..) ⟨Qv N,W5 N,Rz N,G0 N,trivial⟩;exact Bi
def jj:=Bf (YD N)
def jk:=Gi (YD N)
def K4 (N:Nat) (r0:Bool→O R) (d:LA) (b:Nat) (f g:Bool) (e:LA) (c:Nat) (i l:Bool) (k0:Int→O R) (m:Int):O R :=
 (cond (decide (m<((b:Nat):Int))) (cond (Af m b) (Ch .i64 (d.drop ((m.toNat)*1)) fun o=>(cond (Af m c) (Ch .i64 (e.drop ((m.toNat)*1)) fun p=>(cond (o != p) (r0 false) (k0 (wrap .i64 (m+1))))) none)) none) (r0 true))
def Ej (r0:Bool→O R) (d:LA) (b:Nat) (f g:Bool) (e:LA) (c:Nat) (i l:Bool):Nat→Int→O R
 | 0,_=>none
 | n+1,m=>(K4 N r0 d b f g e c i l (Ej r0 d b f g e c i l n) m)
def Lq (N:Nat) (r0:Bool→O R) (q0:Int→O R) (d:LA) (b:Nat) (f g:Bool) (e:LA) (c:Nat) (i l:Bool):O R :=
 (cond (((b:Nat):Int) != ((c:Nat):Int)) (r0 false) (q0 0))
def Fm:=(Ak (fun (N:Nat) (d:LA) (b:Nat) (f g:Bool) (e:LA) (c:Nat) (i l:Bool) (r0:Bool→O R)=>(Lq N r0 (fun m=>(Ej N r0 d b f g e c i l N m)) d b f g e c i l))).1
theorem Tr (d b f g e c i l r0):(@Fm R N d b f g e c i l r0)=(Lq N r0 (fun m=>(Ej N r0 d b f g e c i l N m)) d b f g e c i l):=by rw[Fm,(Ak _).2]
def RP (F:KF R):=Rt Try.f34 NC [] [] N F
def Fw (F:KF R):Bool→O R:=(fun q=>F (.bool q) [])
def RQ (d:LA) (b:Nat) (f g:Bool) (e:LA) (c:Nat) (i l:Bool) (m:Int):St:=⟨[(0,(.imm d b 1 f g)),(1,(.imm e c 1 i l)),(5,(iv m))],[]⟩
def RR (F:KF R):=RP N F [1,1,0,1,0] []
theorem Pd (F:KF R) (d:LA) (b:Nat) (f g:Bool) (e:LA) (c:Nat) (i l:Bool):∀ (n:Nat) (m:Int),Aj (RR N F) n (RQ d b f g e c i l m)=(Ej N (Fw F) d b f g e c i l n m)
 | 0,_=>by kernel_rfl
 | n+1,m=>Eq.trans (by kernel_rfl) (Dc (K4 N (Fw F) d b f g e c i l · m) (funext fun m=>(Pd F d b f g e c i l n m)):_)
theorem W6 (d:LA) (b:Nat) (f g:Bool) (e:LA) (c:Nat) (i l:Bool) (F:KF R):Ga [] NC N 34 [(.imm d b 1 f g),(.imm e c 1 i l)] [] F=(Fm N d b f g e c i l (Fw F)):=by
 rw[Tr]
 exact Eq.trans (by kernel_rfl) (Dc (Lq N (Fw F) · d b f g e c i l) (funext fun m=>(Ah ..).trans (Pd N F d b f g e c i l N m)):_)
def Ts (a:LA) (h:Ag) (k:KF R):O R :=
 match a,h with
 | [(.imm d b 1 f g),(.imm e c 1 i l)],[]=>(Fm N d b f g e c i l (Fw k))
 | _,_=>none
theorem W7:At N 34 @Ts:=by
 intro R Q a h k j;unfold Ts;split;exact Bg (W6 ..) (W6 ..) trivial;exact Bi
def RS:=Bf (W7 N)
def RT:=Gi (W7 N)
def Vk (r0:Bool→O R):O R :=
 (Hg N [(.imm [(.int .i64 1)] 1 1 false false),(.imm [(.int .i64 0),(.int .i64 2)] 2 1 false false),(.imm [(.int .i64 1)] 1 1 false false)] 3 false true (fun b e c=>(BP N [(.imm [(.int .i64 1)] 1 1 false false),(.imm [(.int .i64 0),(.int .i64 2)] 2 1 false false),(.imm [(.int .i64 1)] 1 1 false false)] 3 false true (c.take (b*1)) b false true (fun d f g=>(BQ N [(.imm [(.int .i64 1),(.int .i64 2),(.int .i64 3)] 3 1 false false),(.imm [(.int .i64 0)] 1 1 false false),(.imm [(.int .i64 0)] 1 1 false false),(.imm [(.int .i64 0)] 1 1 false false)] 4 false true [(.int .i64 0),(.int .i64 1),(.int .i64 2),(.int .i64 3)] 4 false true (fun i l=>(cond ((e==0)==true) (cond ((cond true (f==0) false)==true) (cond ((cond true (l==0) false)==true) (Fm N (c.take (b*1)) b false true [(.int .i64 0),(.int .i64 1),(.int .i64 2)] 3 false true (fun m=>(cond ((cond true m false)==true) (Fm N (g.take (d*1)) d false true [(.int .i64 1),(.int .i64 2),(.int .i64 (-1))] 3 false true (fun n=>(cond ((cond true n false)==true) (r0 (cond true (i==3) false)) (r0 false)))) (r0 false)))) (r0 false)) (r0 false)) (r0 false))))))))
def L7:=(Ak (@Vk R)).1
theorem W8:@L7 R=@Vk R:=(Ak _).2
def bI:Ke:=[(21,RI N),(11,je N),(14,jj N),(34,RS N)]
def Zp (F:KF R):Bool→O R:=(fun o=>F (.bool o) [])
theorem Zq (F:KF R):Ga (bI N) S5 N 12 [] [] F=(L7 N (Zp F)):=by
 rw[W8]
 kernel_rfl
def W9 (a:LA) (h:Ag) (k:KF R):O R :=
 match a,h with
 | [],[]=>(L7 N (Zp k))
 | _,_=>none
theorem Zr:At N 12 @W9:=by
 intro R Q a h k j;unfold W9;split;exact Bg (Zq ..) (Zq ..) ⟨RK N,jf N,jk N,RT N,trivial⟩;exact Bi
def YE:=Bf (Zr N)
def YF:=Gi (Zr N)
end
end Gx

namespace Gx
open Go Go.Proofs
open IntKind (wrap)
set_option maxRecDepth 100000
noncomputable section
variable {R:Type} (N:Nat)
def Jv (r0:LA→LA→O R) (b:Nat) (k0:Int→Int→LA→LA→O R) (e c:Int) (f d:LA):O R :=
 (cond (decide (c<e)) (En N b c f (fun i l m=>(cond (Af c b) (cond ((Nat.beq 1 1)&&((Nat.ble ((0+((c.toNat)*1))+1) (d.length))&&(!false))) (k0 e (wrap .i64 (c+1)) l (d.set (0+((c.toNat)*1)) (.imm (m.take (i*1)) i 1 false false))) none) none))) (r0 f d))
def Dw (r0:LA→LA→O R) (b:Nat):Nat→Int→Int→LA→LA→O R
 | 0,_,_,_,_=>none
 | n+1,e,c,f,d=>(Jv N r0 b (Dw r0 b n) e c f d)
def Jw (N:Nat) (r0:LA→LA→O R) (q0:Int→Int→LA→LA→O R) (b:Nat) (g:LA):O R :=
 (cond ((decide (0≤((b:Nat):Int)))&&((decide (((b:Nat):Int)≤((b:Nat):Int)))&&((decide (((b:Nat):Int)≤140737488355328))&&(decide ((((b:Nat):Int)*((24:Nat):Int))≤140737488355328))))) (q0 ((b:Nat):Int) 0 g (List.replicate b .nsl)) none)
def F3:=(Ak (fun (N b:Nat) (g:LA) (r0:LA→LA→O R)=>(Jw N r0 (fun e c f d=>(Dw N r0 b N e c f d)) b g))).1
theorem Qx (b g r0):(@F3 R N b g r0)=(Jw N r0 (fun e c f d=>(Dw N r0 b N e c f d)) b g):=by rw[F3,(Ak _).2]
def Tt:Hints:={ H:=(hS hL (hS hL (hS (hS hL (hS (hP [0,3,9,10] hL) hL)) hL))),nils:=[(2,1)],modes:=[(2,1)] }
def Xa:Ke:=[(52,Gw N)]
def LL (F:KF R):=Rt Try.f40 Tt (Xa N) [100000] N F
def E4 (b:Nat) (F:KF R):LA→LA→O R:=(fun o p=>F (.own 300000 0 b) [(100000,⟨false,false,true,false,2,o,true,none,0,0⟩),(300000,(bQ 1 p))])
def LM (b:Nat) (e c:Int) (f d:LA):St:=⟨[(0,(.nd 100000 (.whole b))),(3,(.own 300000 0 b)),(9,(iv e)),(10,(iv c))],[(100000,⟨false,false,true,false,2,f,true,none,0,0⟩),(300000,(bQ 1 d))]⟩
def LN (F:KF R):=LL N F [1,1,0,1,0] []
theorem M6 (F:KF R) (b:Nat):∀ (n:Nat) (e c:Int) (f d:LA),Aj (LN N F) n (LM b e c f d)=(Dw N (E4 b F) b n e c f d)
 | 0,_,_,_,_=>by kernel_rfl
 | n+1,e,c,f,d=>Eq.trans (by kernel_rfl) (Dc (Jv N (E4 b F) b · e c f d) (funext fun e=>funext fun c=>funext fun f=>funext fun d=>(M6 F b n e c f d)):_)
theorem Tu (b:Nat) (g:LA) (F:KF R):Ga (Xa N) Tt N 40 [(.nd 100000 (.whole b))] [(100000,⟨false,false,true,false,2,g,true,none,0,0⟩)] F=(F3 N b g (E4 b F)):=by
 rw[Qx]
 exact Eq.trans (by kernel_rfl) (Dc (Jw N (E4 b F) · b g) (funext fun e=>funext fun c=>funext fun f=>funext fun d=>(Ah ..).trans (M6 N F b N e c f d)):_)
def Qy (a:LA) (h:Ag) (k:KF R):O R :=
 match a,h with
 | [(.nd 100000 (.whole b))],[(100000,⟨false,false,true,false,2,g,true,none,0,0⟩)]=>(F3 N b g (E4 b k))
 | _,_=>none
theorem Tv:At N 40 @Qy:=by
 intro R Q a h k j;unfold Qy;split;exact Bg (Tu ..) (Tu ..) ⟨Lx N,trivial⟩;exact Bi
def LO:=Bf (Tv N)
def LP:=Gi (Tv N)
def Hq (N:Nat) (k0:Int→LA→O R) (r0:LA→O R) (b:Nat) (c:LA) (k1:Int→Int→LA→O R) (d g:Int) (i:LA):O R :=
 (cond (decide (g<((b:Nat):Int))) (cond (Af d b) (Ht 1 c (d.toNat) fun s m=>(cond (Af g m) (Ht 1 c (d.toNat) fun o t=>(NB (o.drop ((g.toNat)*1)) fun p=>(cond p (cond (Af d b) (Ht 1 i (d.toNat) fun u l=>(Ht 1 i (d.toNat) fun q v=>(cond ((Nat.ble (l+1) 140737488355328)&&(Nat.ble ((l+1)*8) 140737488355328)) (cond (Af d b) (cond (Nat.ble 1 (l+1)) (k1 d (wrap .i64 (g+1)) ((i.set (d.toNat) .undef).set (d.toNat) (A6 (List.take ((l+1)*1) ((q.take (l*1))++[(.int .i64 g)])) (l+1) 1))) none) none) none))) none) (k1 d (wrap .i64 (g+1)) i)))) none)) none) (k0 (wrap .i64 (d+1)) i))
def Cr (k0:Int→LA→O R) (r0:LA→O R) (b:Nat) (c:LA):Nat→Int→Int→LA→O R
 | 0,_,_,_=>none
 | n+1,d,g,i=>(Hq N k0 r0 b c (Cr k0 r0 b c n) d g i)
def Hr (N:Nat) (r0:LA→O R) (b:Nat) (c:LA) (k0:Int→LA→O R) (q1:Int→Int→LA→O R) (f:Int) (e:LA):O R :=
 (cond (decide (f<((b:Nat):Int))) (q1 f 0 e) (cond ((List.all e TD)&&true) (r0 e) none))
def B3 (r0:LA→O R) (b:Nat) (c:LA):Nat→Int→LA→O R
 | 0,_,_=>none
 | n+1,f,e=>(Hr N r0 b c (B3 r0 b c n) (fun d g i=>(Cr N (B3 r0 b c n) r0 b c N d g i)) f e)
def Hh (N:Nat) (r0:LA→O R) (q0:Int→LA→O R) (b:Nat) (c:LA):O R :=
 (cond ((decide (0≤((b:Nat):Int)))&&((decide (((b:Nat):Int)=((b:Nat):Int)))&&((decide (((b:Nat):Int)≤140737488355328))&&(decide ((((b:Nat):Int)*((24:Nat):Int))≤140737488355328))))) (q0 0 (List.replicate b .nsl)) none)
def Ek:=(Ak (fun (N b:Nat) (c:LA) (r0:LA→O R)=>(Hh N r0 (fun f e=>(B3 N r0 b c N f e)) b c))).1
theorem M7 (b c r0):(@Ek R N b c r0)=(Hh N r0 (fun f e=>(B3 N r0 b c N f e)) b c):=by rw[Ek,(Ak _).2]
def Pe:Hints:={ H:=(hS hL (hS hL (hS (hS hL (hS (hP [0,3,4] (hS hL (hS (hS (hS hL (hS (hP [0,3,4,5] hL) hL)) hL) hL))) hL)) hL))),nils:=[(2,1)],modes:=[(1,1)],cob:=[2000008] }
def Pf (F:KF R):=Rt Try.f49 Pe [] [100000] N F
def Bj (b:Nat) (c:LA) (F:KF R):LA→O R:=(fun r=>F (.imm r b 1 false false) [(100000,⟨false,false,true,false,3,c,true,none,0,0⟩)])
def FJ (b:Nat) (c:LA) (d g:Int) (i:LA):St:=⟨[(0,(.nd 100000 (.whole b))),(3,(.nd 300000 (.whole b))),(4,(iv d)),(5,(iv g))],[(100000,⟨false,false,true,false,3,c,true,none,0,0⟩),(300000,⟨false,false,true,false,3,i,true,none,0,0⟩)]⟩
def FK (F:KF R) (Q0:St→O R):=Pf N F [1,1,0,1,0,0,1,0,0,1,0] [Q0]
def Iq (b:Nat) (c:LA) (f:Int) (e:LA):St:=⟨[(0,(.nd 100000 (.whole b))),(3,(.nd 300000 (.whole b))),(4,(iv f))],[(100000,⟨false,false,true,false,3,c,true,none,0,0⟩),(300000,⟨false,false,true,false,3,e,true,none,0,0⟩)]⟩
def Pg (F:KF R):=Pf N F [1,1,0,1,0] []
theorem Ki (Q0:St→O R) (F:KF R) (b:Nat) (c:LA):∀ (n:Nat) (d g:Int) (i:LA),Aj (FK N F Q0) n (FJ b c d g i)=(Cr N (fun f e=>Q0 (Iq b c f e)) (Bj b c F) b c n d g i)
 | 0,_,_,_=>by kernel_rfl
 | n+1,d,g,i=>Eq.trans (by kernel_rfl) (Dc (Hq N (fun f e=>Q0 (Iq b c f e)) (Bj b c F) b c · d g i) (funext fun d=>funext fun g=>funext fun i=>(Ki Q0 F b c n d g i)):_)
theorem Kj (F:KF R) (b:Nat) (c:LA):∀ (n:Nat) (f:Int) (e:LA),Aj (Pg N F) n (Iq b c f e)=(B3 N (Bj b c F) b c n f e)
 | 0,_,_=>by kernel_rfl
 | n+1,f,e=>have e0:=(funext fun f=>funext fun e=>(Kj F b c n f e))
  Eq.trans (by kernel_rfl) (bz (Hr N (Bj b c F) b c · · f e) e0 (funext fun d=>funext fun g=>funext fun i=>(Ah ..).trans ((Ki N (Aj (Pg N F) n) F b c N d g i).trans (Dc (Cr N · (Bj b c F) b c N d g i) e0))):_)
theorem Ph (b:Nat) (c:LA) (F:KF R):Ga [] Pe N 49 [(.nd 100000 (.whole b))] [(100000,⟨false,false,true,false,3,c,true,none,0,0⟩)] F=(Ek N b c (Bj b c F)):=by
 rw[M7]
 exact Eq.trans (by kernel_rfl) (Dc (Hh N (Bj b c F) · b c) (funext fun f=>funext fun e=>(Ah ..).trans (Kj N F b c N f e)):_)
def M8 (a:LA) (h:Ag) (k:KF R):O R :=
 match a,h with
 | [(.nd 100000 (.whole b))],[(100000,⟨false,false,true,false,3,c,true,none,0,0⟩)]=>(Ek N b c (Bj b c k))
 | _,_=>none
theorem Pi:At N 49 @M8:=by
 intro R Q a h k j;unfold M8;split;exact Bg (Ph ..) (Ph ..) trivial;exact Bi
def FL:=Bf (Pi N)
def FM:=Gi (Pi N)
end
end Gx

namespace Gx
open Go Go.Proofs
open IntKind (wrap)
set_option maxRecDepth 100000
noncomputable section
variable {R:Type} (N:Nat)
def Vl (N:Nat) (r0:Bool→O R) (d:LA) (b:Nat) (f g:Bool) (e:LA) (c:Nat) (i l:Bool) (k0:Int→O R) (m:Int):O R :=
 (cond (decide (m<((b:Nat):Int))) (cond (Af m b) (Ch .i64 (d.drop ((m.toNat)*1)) fun o=>(cond (Af m c) (Ch .i64 (e.drop ((m.toNat)*1)) fun p=>(cond (o != p) (r0 false) (k0 (wrap .i64 (m+1))))) none)) none) (r0 true))
def I5 (r0:Bool→O R) (d:LA) (b:Nat) (f g:Bool) (e:LA) (c:Nat) (i l:Bool):Nat→Int→O R
 | 0,_=>none
 | n+1,m=>(Vl N r0 d b f g e c i l (I5 r0 d b f g e c i l n) m)
def BR (N:Nat) (r0:Bool→O R) (q0:Int→O R) (d:LA) (b:Nat) (f g:Bool) (e:LA) (c:Nat) (i l:Bool):O R :=
 (cond (((b:Nat):Int) != ((c:Nat):Int)) (r0 false) (q0 0))
def Tx:=(Ak (fun (N:Nat) (d:LA) (b:Nat) (f g:Bool) (e:LA) (c:Nat) (i l:Bool) (r0:Bool→O R)=>(BR N r0 (fun m=>(I5 N r0 d b f g e c i l N m)) d b f g e c i l))).1
theorem IH (d b f g e c i l r0):(@Tx R N d b f g e c i l r0)=(BR N r0 (fun m=>(I5 N r0 d b f g e c i l N m)) d b f g e c i l):=by rw[Tx,(Ak _).2]
def gO (F:KF R):=Rt Try.f50 NC [] [] N F
def L8 (F:KF R):Bool→O R:=(fun q=>F (.bool q) [])
def gP (d:LA) (b:Nat) (f g:Bool) (e:LA) (c:Nat) (i l:Bool) (m:Int):St:=⟨[(0,(.imm d b 1 f g)),(1,(.imm e c 1 i l)),(5,(iv m))],[]⟩
def gQ (F:KF R):=gO N F [1,1,0,1,0] []
theorem Zs (F:KF R) (d:LA) (b:Nat) (f g:Bool) (e:LA) (c:Nat) (i l:Bool):∀ (n:Nat) (m:Int),Aj (gQ N F) n (gP d b f g e c i l m)=(I5 N (L8 F) d b f g e c i l n m)
 | 0,_=>by kernel_rfl
 | n+1,m=>Eq.trans (by kernel_rfl) (Dc (Vl N (L8 F) d b f g e c i l · m) (funext fun m=>(Zs F d b f g e c i l n m)):_)
theorem PS (d:LA) (b:Nat) (f g:Bool) (e:LA) (c:Nat) (i l:Bool) (F:KF R):Ga [] NC N 50 [(.imm d b 1 f g),(.imm e c 1 i l)] [] F=(Tx N d b f g e c i l (L8 F)):=by
 rw[IH]
 exact Eq.trans (by kernel_rfl) (Dc (BR N (L8 F) · d b f g e c i l) (funext fun m=>(Ah ..).trans (Zs N F d b f g e c i l N m)):_)
def II (a:LA) (h:Ag) (k:KF R):O R :=
 match a,h with
 | [(.imm d b 1 f g),(.imm e c 1 i l)],[]=>(Tx N d b f g e c i l (L8 k))
 | _,_=>none
theorem PT:At N 50 @II:=by
 intro R Q a h k j;unfold II;split;exact Bg (PS ..) (PS ..) trivial;exact Bi
def gR:=Bf (PT N)
def gS:=Gi (PT N)
def Vm (r0:Bool→O R) (d:LA) (b:Nat) (i e:Bool) (f:LA) (c:Nat) (l g:Bool) (k0:Int→O R) (m:Int):O R :=
 (cond (decide (m<((b:Nat):Int))) (cond (Af m b) (Gk 1 (d.drop ((m.toNat)*1)) fun o p=>(cond (Af m c) (Gk 1 (f.drop ((m.toNat)*1)) fun q r=>(Tx N o p false e q r false g (fun s=>(cond (!s) (r0 false) (k0 (wrap .i64 (m+1))))))) none)) none) (r0 true))
def I6 (r0:Bool→O R) (d:LA) (b:Nat) (i e:Bool) (f:LA) (c:Nat) (l g:Bool):Nat→Int→O R
 | 0,_=>none
 | n+1,m=>(Vm N r0 d b i e f c l g (I6 r0 d b i e f c l g n) m)
def BS (N:Nat) (r0:Bool→O R) (q0:Int→O R) (d:LA) (b:Nat) (i e:Bool) (f:LA) (c:Nat) (l g:Bool):O R :=
 (cond (((b:Nat):Int) != ((c:Nat):Int)) (r0 false) (q0 0))
def L9:=(Ak (fun (N:Nat) (d:LA) (b:Nat) (i e:Bool) (f:LA) (c:Nat) (l g:Bool) (r0:Bool→O R)=>(BS N r0 (fun m=>(I6 N r0 d b i e f c l g N m)) d b i e f c l g))).1
theorem IJ (d b i e f c l g r0):(@L9 R N d b i e f c l g r0)=(BS N r0 (fun m=>(I6 N r0 d b i e f c l g N m)) d b i e f c l g):=by rw[L9,(Ak _).2]
def YG:Ke:=[(50,gR N)]
def gT (F:KF R):=Rt Try.f29 NC (YG N) [] N F
def Ma (F:KF R):Bool→O R:=(fun t=>F (.bool t) [])
def gU (d:LA) (b:Nat) (i e:Bool) (f:LA) (c:Nat) (l g:Bool) (m:Int):St:=⟨[(0,(.imm d b 1 i e)),(1,(.imm f c 1 l g)),(5,(iv m))],[]⟩
def gV (F:KF R):=gT N F [1,1,0,1,0] []
theorem Zt (F:KF R) (d:LA) (b:Nat) (i e:Bool) (f:LA) (c:Nat) (l g:Bool):∀ (n:Nat) (m:Int),Aj (gV N F) n (gU d b i e f c l g m)=(I6 N (Ma F) d b i e f c l g n m)
 | 0,_=>by kernel_rfl
 | n+1,m=>Eq.trans (by kernel_rfl) (Dc (Vm N (Ma F) d b i e f c l g · m) (funext fun m=>(Zt F d b i e f c l g n m)):_)
theorem PU (d:LA) (b:Nat) (i e:Bool) (f:LA) (c:Nat) (l g:Bool) (F:KF R):Ga (YG N) NC N 29 [(.imm d b 1 i e),(.imm f c 1 l g)] [] F=(L9 N d b i e f c l g (Ma F)):=by
 rw[IJ]
 exact Eq.trans (by kernel_rfl) (Dc (BS N (Ma F) · d b i e f c l g) (funext fun m=>(Ah ..).trans (Zt N F d b i e f c l g N m)):_)
def IK (a:LA) (h:Ag) (k:KF R):O R :=
 match a,h with
 | [(.imm d b 1 i e),(.imm f c 1 l g)],[]=>(L9 N d b i e f c l g (Ma k))
 | _,_=>none
theorem PV:At N 29 @IK:=by
 intro R Q a h k j;unfold IK;split;exact Bg (PU ..) (PU ..) ⟨gS N,trivial⟩;exact Bi
def gW:=Bf (PV N)
def gX:=Gi (PV N)
end
end Gx

namespace Gx
open Go Go.Proofs
open IntKind (wrap)
set_option maxRecDepth 100000
noncomputable section
variable {R:Type} (N:Nat)
def Pj (N:Nat) (k0:Nat→Int→Int→LA→O R) (k1:Nat→Int→Int→LA→O R) (r0:Nat→LA→O R) (i:LA) (g:Nat) (b:Bool) (d:LA) (c:Nat) (e:Bool) (f t:Int) (z:Nat) (aa q:Int) (ab:LA):O R :=
 (cond ((decide ((0:Int)≤(0:Int)))&&((decide (0≤q))&&((decide (q≤((z:Nat):Int)))&&(decide (((z:Nat):Int)≤((z:Nat):Int)))))) (cond ((Nat.ble (0+(q.toNat)) 140737488355328)&&(Nat.ble ((0+(q.toNat))*8) 140737488355328)) (cond (Af aa g) (Ch .i64 (i.drop ((aa.toNat)*4)) fun ac=>(cond ((Nat.ble ((0+(q.toNat))+1) 140737488355328)&&(Nat.ble (((0+(q.toNat))+1)*8) 140737488355328)) (cond ((decide (0≤q))&&((decide (q≤((z:Nat):Int)))&&((decide (((z:Nat):Int)≤((z:Nat):Int)))&&(decide (((z:Nat):Int)≤((z:Nat):Int)))))) (cond ((Nat.ble (((0+(q.toNat))+1)+(z - (q.toNat))) 140737488355328)&&(Nat.ble ((((0+(q.toNat))+1)+(z - (q.toNat)))*8) 140737488355328)) (k1 (((0+(q.toNat))+1)+(z - (q.toNat))) (wrap .i64 (aa+1)) t ((List.take (((0+(q.toNat))+1)*1) (((ab.take ((q.toNat)*1)).take ((0+(q.toNat))*1))++[(.int .i64 ac)]))++((ab.drop (0+((q.toNat)*1))).take ((z - (q.toNat))*1)))) none) none) none)) none) none) none)
def Mu (N:Nat) (k0:Nat→Int→Int→LA→O R) (k1:Nat→Int→Int→LA→O R) (r0:Nat→LA→O R) (i:LA) (g:Nat) (b:Bool) (d:LA) (c:Nat) (e:Bool) (f:Int) (k2:Nat→Int→Int→Int→LA→O R) (q3:Nat→Int→Int→LA→O R) (r:Nat) (s p t:Int) (u:LA):O R :=
 (cond ((decide (p<((r:Nat):Int)))==true) (cond (Af p r) (Ch .i64 (u.drop (0+((p.toNat)*1))) fun ad=>(cond (Af s g) (Ch .i64 (i.drop ((s.toNat)*4)) fun ae=>(cond (cond true (decide (ad<ae)) false) (k2 r s (wrap .i64 (p+1)) t u) (cond ((decide (p<((r:Nat):Int)))==true) (cond (Af p r) (Ch .i64 (u.drop (0+((p.toNat)*1))) fun af=>(cond (Af s g) (Ch .i64 (i.drop ((s.toNat)*4)) fun ag=>(cond (cond true (af==ag) false) (k1 r (wrap .i64 (s+1)) t u) (q3 r s p u))) none)) none) (q3 r s p u)))) none)) none) (cond ((decide (p<((r:Nat):Int)))==true) (cond (Af p r) (Ch .i64 (u.drop (0+((p.toNat)*1))) fun ah=>(cond (Af s g) (Ch .i64 (i.drop ((s.toNat)*4)) fun ai=>(cond (cond true (ah==ai) false) (k1 r (wrap .i64 (s+1)) t u) (q3 r s p u))) none)) none) (q3 r s p u)))
def E5 (k0:Nat→Int→Int→LA→O R) (k1:Nat→Int→Int→LA→O R) (r0:Nat→LA→O R) (i:LA) (g:Nat) (b:Bool) (d:LA) (c:Nat) (e:Bool) (f:Int):Nat→Nat→Int→Int→Int→LA→O R
 | 0,_,_,_,_,_=>none
 | n+1,r,s,p,t,u=>(Mu N k0 k1 r0 i g b d c e f (E5 k0 k1 r0 i g b d c e f n) (fun z aa q ab=>(Pj N k0 k1 r0 i g b d c e f t z aa q ab)) r s p t u)
def Mv (N:Nat) (k0:Nat→Int→Int→LA→O R) (r0:Nat→LA→O R) (i:LA) (g:Nat) (b:Bool) (d:LA) (c:Nat) (e:Bool) (f:Int) (k1:Nat→Int→Int→LA→O R) (q2:Nat→Int→Int→Int→LA→O R) (v:Nat) (w x:Int) (y:LA):O R :=
 (cond (decide (w<((g:Nat):Int))) (q2 v w 0 x y) (k0 v f (wrap .i64 (x+1)) y))
def D4 (k0:Nat→Int→Int→LA→O R) (r0:Nat→LA→O R) (i:LA) (g:Nat) (b:Bool) (d:LA) (c:Nat) (e:Bool) (f:Int):Nat→Nat→Int→Int→LA→O R
 | 0,_,_,_,_=>none
 | n+1,v,w,x,y=>(Mv N k0 r0 i g b d c e f (D4 k0 r0 i g b d c e f n) (fun r s p t u=>(E5 N k0 (D4 k0 r0 i g b d c e f n) r0 i g b d c e f N r s p t u)) v w x y)
def H9 (N:Nat) (r0:Nat→LA→O R) (d:LA) (c:Nat) (e b:Bool) (k0:Nat→Int→Int→LA→O R) (q1:LA→Nat→Nat→Int→Int→LA→O R) (m:Nat) (f l:Int) (o:LA):O R :=
 (cond (decide (l<f)) (cond (Af l c) (Gk 4 (d.drop ((l.toNat)*1)) fun i g=>(q1 i g m 0 l o)) none) (r0 m o))
def C1 (r0:Nat→LA→O R) (d:LA) (c:Nat) (e b:Bool):Nat→Nat→Int→Int→LA→O R
 | 0,_,_,_,_=>none
 | n+1,m,f,l,o=>(H9 N r0 d c e b (C1 r0 d c e b n) (fun i g v w x y=>(D4 N (C1 r0 d c e b n) r0 i g b d c e f N v w x y)) m f l o)
def Nx (N:Nat) (r0:Nat→LA→O R) (q0:Nat→Int→Int→LA→O R) (d:LA) (c:Nat) (e b:Bool):O R :=
 (q0 0 ((c:Nat):Int) 0 [])
def I7:=(Ak (fun (N:Nat) (d:LA) (c:Nat) (e b:Bool) (r0:Nat→LA→O R)=>(Nx N r0 (fun m f l o=>(C1 N r0 d c e b N m f l o)) d c e b))).1
theorem Xb (d c e b r0):(@I7 R N d c e b r0)=(Nx N r0 (fun m f l o=>(C1 N r0 d c e b N m f l o)) d c e b):=by rw[I7,(Ak _).2]
def Zu:Hints:={ H:=(hS hL (hS hL (hS (hS hL (hS (hP [3,9,10,11] (hS hL (hS hL (hS (hS (hS hL (hS hL (hS (hP [3,5,6,9,10,11] (hS hL (hS (hS (hS hL (hS (hS (hP [3,5,6,7,9,10,11] hL) hL) (hJ [3,5,6,7,9,10,11] hL hL))) hL) hL))) hL))) hL) hL)))) hL)) hL))),nils:=[(2,1),(3,1)],modes:=[(2,1)] }
def Jx (F:KF R):=Rt Try.f72 Zu [] [] N F
def Bd (F:KF R):Nat→LA→O R:=(fun aj ak=>F (.own 300000 0 aj) (hq [(bQ 1 ak)]))
def YH (i:LA) (g:Nat) (b:Bool) (d:LA) (c:Nat) (e:Bool) (f t:Int) (z:Nat) (aa q:Int) (ab:LA):St:=⟨[(3,(.own 300000 0 z)),(5,(.imm i g 4 false b)),(6,(iv aa)),(7,(iv q)),(9,(.imm d c 1 e b)),(10,(iv f)),(11,(iv t))],(hq [(bQ 1 ab)])⟩
def YI (F:KF R) (Q0 Q1:St→O R):=Jx N F [1,1,0,1,0,0,1,1,0,0,1,1,0,0,1,0,0,1,1,1] [Q0,Q1]
def YJ (i:LA) (g:Nat) (b:Bool) (d:LA) (c:Nat) (e:Bool) (f:Int) (r:Nat) (s p t:Int) (u:LA):St:=⟨[(3,(.own 300000 0 r)),(5,(.imm i g 4 false b)),(6,(iv s)),(7,(iv p)),(9,(.imm d c 1 e b)),(10,(iv f)),(11,(iv t))],(hq [(bQ 1 u)])⟩
def YK (F:KF R) (Q0 Q1:St→O R):=Jx N F [1,1,0,1,0,0,1,1,0,0,1,1,0,0,1,0,0,1,0,0] [Q0,Q1]
def Jy (i:LA) (g:Nat) (b:Bool) (d:LA) (c:Nat) (e:Bool) (f:Int) (v:Nat) (w x:Int) (y:LA):St:=⟨[(3,(.own 300000 0 v)),(5,(.imm i g 4 false b)),(6,(iv w)),(9,(.imm d c 1 e b)),(10,(iv f)),(11,(iv x))],(hq [(bQ 1 y)])⟩
def Zv (F:KF R) (Q0:St→O R):=Jx N F [1,1,0,1,0,0,1,1,0,0,1,1,0] [Q0]
def D5 (d:LA) (c:Nat) (e b:Bool) (m:Nat) (f l:Int) (o:LA):St:=⟨[(3,(.own 300000 0 m)),(9,(.imm d c 1 e b)),(10,(iv f)),(11,(iv l))],(hq [(bQ 1 o)])⟩
def Zw (F:KF R):=Jx N F [1,1,0,1,0] []
theorem IL (Q0 Q1:St→O R) (F:KF R) (i:LA) (g:Nat) (b:Bool) (d:LA) (c:Nat) (e:Bool) (f t:Int):∀ (z:Nat) (aa q:Int) (ab:LA),Rs (YI N F Q0 Q1) (YH i g b d c e f t z aa q ab)=(Pj N (fun m f l o=>Q0 (D5 d c e b m f l o)) (fun v w x y=>Q1 (Jy i g b d c e f v w x y)) (Bd F) i g b d c e f t z aa q ab):=by
 intro z aa q ab
 kernel_rfl
theorem Qz (Q0 Q1:St→O R) (F:KF R) (i:LA) (g:Nat) (b:Bool) (d:LA) (c:Nat) (e:Bool) (f:Int):∀ (n r:Nat) (s p t:Int) (u:LA),Aj (YK N F Q0 Q1) n (YJ i g b d c e f r s p t u)=(E5 N (fun m f l o=>Q0 (D5 d c e b m f l o)) (fun v w x y=>Q1 (Jy i g b d c e f v w x y)) (Bd F) i g b d c e f n r s p t u)
 | 0,_,_,_,_,_=>by kernel_rfl
 | n+1,r,s,p,t,u=>Eq.trans (by kernel_rfl) (bz (Mu N (fun m f l o=>Q0 (D5 d c e b m f l o)) (fun v w x y=>Q1 (Jy i g b d c e f v w x y)) (Bd F) i g b d c e f · · r s p t u) (funext fun r=>funext fun s=>funext fun p=>funext fun t=>funext fun u=>(Qz Q0 Q1 F i g b d c e f n r s p t u)) (funext fun z=>funext fun aa=>funext fun q=>funext fun ab=>(Hf ..).trans (IL N Q0 Q1 F i g b d c e f t z aa q ab)):_)
theorem Q3 (Q0:St→O R) (F:KF R) (i:LA) (g:Nat) (b:Bool) (d:LA) (c:Nat) (e:Bool) (f:Int):∀ (n v:Nat) (w x:Int) (y:LA),Aj (Zv N F Q0) n (Jy i g b d c e f v w x y)=(D4 N (fun m f l o=>Q0 (D5 d c e b m f l o)) (Bd F) i g b d c e f n v w x y)
 | 0,_,_,_,_=>by kernel_rfl
 | n+1,v,w,x,y=>have e0:=(funext fun v=>funext fun w=>funext fun x=>funext fun y=>(Q3 Q0 F i g b d c e f n v w x y))
  Eq.trans (by kernel_rfl) (bz (Mv N (fun m f l o=>Q0 (D5 d c e b m f l o)) (Bd F) i g b d c e f · · v w x y) e0 (funext fun r=>funext fun s=>funext fun p=>funext fun t=>funext fun u=>(Ah ..).trans ((Qz N Q0 (Aj (Zv N F Q0) n) F i g b d c e f N r s p t u).trans (Dc (E5 N (fun m f l o=>Q0 (D5 d c e b m f l o)) · (Bd F) i g b d c e f N r s p t u) e0))):_)
theorem Q4 (F:KF R) (d:LA) (c:Nat) (e b:Bool):∀ (n m:Nat) (f l:Int) (o:LA),Aj (Zw N F) n (D5 d c e b m f l o)=(C1 N (Bd F) d c e b n m f l o)
 | 0,_,_,_,_=>by kernel_rfl
 | n+1,m,f,l,o=>have e0:=(funext fun m=>funext fun f=>funext fun l=>funext fun o=>(Q4 F d c e b n m f l o))
  Eq.trans (by kernel_rfl) (bz (H9 N (Bd F) d c e b · · m f l o) e0 (funext fun i=>funext fun g=>funext fun v=>funext fun w=>funext fun x=>funext fun y=>(Ah ..).trans ((Q3 N (Aj (Zw N F) n) F i g b d c e f N v w x y).trans (Dc (D4 N · (Bd F) i g b d c e f N v w x y) e0))):_)
theorem Zx (d:LA) (c:Nat) (e b:Bool) (F:KF R):Ga [] Zu N 72 [(.imm d c 1 e b)] [] F=(I7 N d c e b (Bd F)):=by
 rw[Xb]
 exact Eq.trans (by kernel_rfl) (Dc (Nx N (Bd F) · d c e b) (funext fun m=>funext fun f=>funext fun l=>funext fun o=>(Ah ..).trans (Q4 N F d c e b N m f l o)):_)
def Xc (a:LA) (h:Ag) (k:KF R):O R :=
 match a,h with
 | [(.imm d c 1 e b)],[]=>(I7 N d c e b (Bd k))
 | _,_=>none
theorem Zy:At N 72 @Xc:=by
 intro R Q a h k j;unfold Xc;split;exact Bg (Zx ..) (Zx ..) trivial;exact Bi
def YL:=Bf (Zy N)
def YM:=Gi (Zy N)
def Q5 (r0:LA→O R) (b:LA) (c:Nat) (g d:Bool) (e:Int) (k0:Int→LA→O R) (i:Int) (f:LA):O R :=
 (cond (decide (i<((c:Nat):Int))) (cond (Af i c) (Ch .i64 (b.drop ((i.toNat)*4)) fun o=>(cond (o==e) (cond (Nat.ble 3 (f.length)) (cond (Af i c) (cond (Nat.ble 3 (((b.drop ((i.toNat)*4)).drop 1).length)) (BL N (f.take 3) false (((b.drop ((i.toNat)*4)).drop 1).take 3) d (fun l=>(cond ((Nat.beq (l.length) 3)&&((Nat.ble 3 (f.length))&&(!false))) (k0 (wrap .i64 (i+1)) (setCells f 0 l)) none))) none) none) none) (k0 (wrap .i64 (i+1)) f))) none) (cond (Nat.ble 3 (f.length)) (cond ((Nat.beq 0 0)&&((Nat.beq ((f.take 3).length) 3)&&(Nat.beq 3 3))) (cond (Nat.ble 3 ((f.take 3).length)) (r0 ((f.take 3).take 3)) none) none) none))
def G2 (r0:LA→O R) (b:LA) (c:Nat) (g d:Bool) (e:Int):Nat→Int→LA→O R
 | 0,_,_=>none
 | n+1,i,f=>(Q5 N r0 b c g d e (G2 r0 b c g d e n) i f)
def IM (r0:LA→O R) (q0:Int→LA→O R) (b:LA) (c:Nat) (g d:Bool) (e:Int):O R :=
 (Ot N (fun m=>(cond ((Nat.beq 0 0)&&((Nat.beq (m.length) 3)&&(Nat.beq 3 3))) (q0 0 m) none)))
def Vn:=(Ak (fun (N:Nat) (b:LA) (c:Nat) (g d:Bool) (e:Int) (r0:LA→O R)=>(IM N r0 (fun i f=>(G2 N r0 b c g d e N i f)) b c g d e))).1
theorem PW (b c g d e r0):(@Vn R N b c g d e r0)=(IM N r0 (fun i f=>(G2 N r0 b c g d e N i f)) b c g d e):=by rw[Vn,(Ak _).2]
def YN:Hints:={ H:=(hS hL (hS hL (hS (hS hL (hS (hP [0,1,4,5,6] hL) hL)) hL))),modes:=[(3,0)] }
def cT:Ke:=[(42,Yj N),(73,j4 N)]
def jl (F:KF R):=Rt Try.f61 YN (cT N) [] N F
def Pk (F:KF R):LA→O R:=(fun p=>F (.pagg p false) [])
def jm (b:LA) (c:Nat) (g d:Bool) (e i:Int) (f:LA):St:=⟨[(0,(.imm b c 4 g d)),(1,(iv e)),(4,(op 0)),(5,(op 1)),(6,(iv i))],(hq [(bN 0 [(.bool false),.nsl,.nsl]),(bQ 0 f)])⟩
def jn (F:KF R):=jl N F [1,1,0,1,0] []
theorem ED (F:KF R) (b:LA) (c:Nat) (g d:Bool) (e:Int):∀ (n:Nat) (i:Int) (f:LA),Aj (jn N F) n (jm b c g d e i f)=(G2 N (Pk F) b c g d e n i f)
 | 0,_,_=>by kernel_rfl
 | n+1,i,f=>Eq.trans (by kernel_rfl) (Dc (Q5 N (Pk F) b c g d e · i f) (funext fun i=>funext fun f=>(ED F b c g d e n i f)):_)
theorem YO (b:LA) (c:Nat) (g d:Bool) (e:Int) (F:KF R):Ga (cT N) YN N 61 [(.imm b c 4 g d),(iv e)] [] F=(Vn N b c g d e (Pk F)):=by
 rw[PW]
 exact Eq.trans (by kernel_rfl) (Dc (IM N (Pk F) · b c g d e) (funext fun i=>funext fun f=>(Ah ..).trans (ED N F b c g d e N i f)):_)
def PX (a:LA) (h:Ag) (k:KF R):O R :=
 match a,h with
 | [(.imm b c 4 g d),(.int .i64 e)],[]=>(Vn N b c g d e (Pk k))
 | _,_=>none
theorem YP:At N 61 @PX:=by
 intro R Q a h k j;unfold PX;split;exact Bg (YO ..) (YO ..) ⟨Yk N,j5 N,trivial⟩;exact Bi
def YQ:=Bf (YP N)
def YR:=Gi (YP N)
def Vo (r0:Nat→LA→O R) (b:LA) (c:Nat) (e d:Bool) (i:Nat) (o:LA) (k0:Nat→Int→Int→LA→O R) (f:Nat) (l g:Int) (m:LA):O R :=
 (cond (decide (g<l)) (cond (Af g i) (Ch .i64 (o.drop (0+((g.toNat)*1))) fun q=>(Vn N b c false d q (fun p=>(cond ((Nat.beq 0 0)&&((Nat.beq (p.length) 3)&&(Nat.beq 3 3))) (cond (Nat.ble 3 (p.length)) (E2 N (p.take 3) false (fun r=>(cond (r != 0) (cond (Nat.ble 3 (p.length)) (cond ((Nat.beq ((p.take 3).length) 3)&&(Nat.ble 4 4)) (cond ((Nat.beq ((setCells [(.int .i64 q),(.bool false),.nsl,.nsl] 1 (p.take 3)).length) 4)&&(Nat.ble 4 4)) (cond ((Nat.ble (f+1) 140737488355328)&&(Nat.ble ((f+1)*64) 140737488355328)) (k0 (f+1) l (wrap .i64 (g+1)) ((m.take (f*4))++((setCells [(.int .i64 0),(.bool false),.nsl,.nsl] 0 (setCells [(.int .i64 q),(.bool false),.nsl,.nsl] 1 (p.take 3))).take 4))) none) none) none) none) (k0 f l (wrap .i64 (g+1)) m)))) none) none)))) none) (r0 f m))
def I8 (r0:Nat→LA→O R) (b:LA) (c:Nat) (e d:Bool) (i:Nat) (o:LA):Nat→Nat→Int→Int→LA→O R
 | 0,_,_,_,_=>none
 | n+1,f,l,g,m=>(Vo N r0 b c e d i o (I8 r0 b c e d i o n) f l g m)
def BT (r0:Nat→LA→O R) (q0:Nat→LA→Nat→Int→Int→LA→O R) (b:LA) (c:Nat) (e d:Bool):O R :=
 (I7 N [(.imm b c 4 e d)] 1 false true (fun i o=>(q0 i o 0 ((i:Nat):Int) 0 [])))
def Pl:=(Ak (fun (N:Nat) (b:LA) (c:Nat) (e d:Bool) (r0:Nat→LA→O R)=>(BT N r0 (fun i o f l g m=>(I8 N r0 b c e d i o N f l g m)) b c e d))).1
theorem IN (b c e d r0):(@Pl R N b c e d r0)=(BT N r0 (fun i o f l g m=>(I8 N r0 b c e d i o N f l g m)) b c e d):=by rw[Pl,(Ak _).2]
def PY:Hints:={ H:=(hS hL (hS hL (hS (hS hL (hS (hP [0,3,9,10,11] hL) hL)) hL))),nils:=[(2,4),(3,4)],modes:=[(2,4)] }
def YS:Ke:=[(72,YL N),(61,YQ N),(48,Y6 N)]
def gY (F:KF R):=Rt Try.f59 PY (YS N) [] N F
def Mb (F:KF R):Nat→LA→O R:=(fun s t=>F (.own 300000 0 s) (hq [(bQ 4 t)]))
def gZ (b:LA) (c:Nat) (e d:Bool) (i:Nat) (o:LA) (f:Nat) (l g:Int) (m:LA):St:=⟨[(0,(.imm b c 4 e d)),(3,(.own 300000 0 f)),(9,(.own 300001 0 i)),(10,(iv l)),(11,(iv g))],(hq [(bQ 4 m),(bQ 1 o)])⟩
def g9 (F:KF R):=gY N F [1,1,0,1,0] []
theorem Zz (F:KF R) (b:LA) (c:Nat) (e d:Bool) (i:Nat) (o:LA):∀ (n f:Nat) (l g:Int) (m:LA),Aj (g9 N F) n (gZ b c e d i o f l g m)=(I8 N (Mb F) b c e d i o n f l g m)
 | 0,_,_,_,_=>by kernel_rfl
 | n+1,f,l,g,m=>Eq.trans (by kernel_rfl) (Dc (Vo N (Mb F) b c e d i o · f l g m) (funext fun f=>funext fun l=>funext fun g=>funext fun m=>(Zz F b c e d i o n f l g m)):_)
theorem PZ (b:LA) (c:Nat) (e d:Bool) (F:KF R):Ga (YS N) PY N 59 [(.imm b c 4 e d)] [] F=(Pl N b c e d (Mb F)):=by
 rw[IN]
 exact Eq.trans (by kernel_rfl) (Dc (BT N (Mb F) · b c e d) (funext fun i=>funext fun o=>funext fun f=>funext fun l=>funext fun g=>funext fun m=>(Ah ..).trans (Zz N F b c e d i o N f l g m)):_)
def IP (a:LA) (h:Ag) (k:KF R):O R :=
 match a,h with
 | [(.imm b c 4 e d)],[]=>(Pl N b c e d (Mb k))
 | _,_=>none
theorem P_:At N 59 @IP:=by
 intro R Q a h k j;unfold IP;split;exact Bg (PZ ..) (PZ ..) ⟨YM N,YR N,Y7 N,trivial⟩;exact Bi
def P':=Bf (P_ N)
def QA:=Gi (P_ N)
def Jz (r0:Nat→LA→O R) (b:LA) (c:Nat) (f d:Bool) (k0:Nat→Int→Bool→LA→O R) (g:Nat) (e:Int) (l:Bool) (i:LA):O R :=
 (cond (decide (e<((c:Nat):Int))) (cond (Af e c) (cond (Nat.ble 3 ((b.drop ((e.toNat)*3)).length)) (cond ((Nat.beq (((b.drop ((e.toNat)*3)).take 3).length) 3)&&(Nat.ble 4 4)) (cond ((Nat.beq ((setCells [(.int .i64 e),(.bool false),.nsl,.nsl] 1 ((b.drop ((e.toNat)*3)).take 3)).length) 4)&&(Nat.ble 4 4)) (cond ((Nat.ble (g+1) 140737488355328)&&(Nat.ble ((g+1)*64) 140737488355328)) (k0 (g+1) (wrap .i64 (e+1)) (l||((d||false)||false)) ((i.take (g*4))++((setCells [(.int .i64 0),(.bool false),.nsl,.nsl] 0 (setCells [(.int .i64 e),(.bool false),.nsl,.nsl] 1 ((b.drop ((e.toNat)*3)).take 3))).take 4))) none) none) none) none) none) (Pl N (i.take (g*4)) g false true (fun m o=>(r0 m o))))
def Dx (r0:Nat→LA→O R) (b:LA) (c:Nat) (f d:Bool):Nat→Nat→Int→Bool→LA→O R
 | 0,_,_,_,_=>none
 | n+1,g,e,l,i=>(Jz N r0 b c f d (Dx r0 b c f d n) g e l i)
def J3 (N:Nat) (r0:Nat→LA→O R) (q0:Nat→Int→Bool→LA→O R) (b:LA) (c:Nat) (f d:Bool):O R :=
 (q0 0 0 false [])
def Et:=(Ak (fun (N:Nat) (b:LA) (c:Nat) (f d:Bool) (r0:Nat→LA→O R)=>(J3 N r0 (fun g e l i=>(Dx N r0 b c f d N g e l i)) b c f d))).1
theorem Q6 (b c f d r0):(@Et R N b c f d r0)=(J3 N r0 (fun g e l i=>(Dx N r0 b c f d N g e l i)) b c f d):=by rw[Et,(Ak _).2]
def Ty:Hints:={ H:=(hS hL (hS hL (hS (hS hL (hS (hP [0,3,4] hL) hL)) hL))),nils:=[(2,4),(3,4)],modes:=[(2,4)] }
def Xd:Ke:=[(59,P' N)]
def LQ (F:KF R):=Rt Try.f44 Ty (Xd N) [] N F
def E6 (F:KF R):Nat→LA→O R:=(fun p q=>F (.own 300000 0 p) (hq [(bQ 4 q)]))
def LR (b:LA) (c:Nat) (f d:Bool) (g:Nat) (e:Int) (l:Bool) (i:LA):St:=⟨[(0,(.imm b c 3 f d)),(3,(.own 300000 0 g)),(4,(iv e))],(hq [(bP l 4 i)])⟩
def LT (F:KF R):=LQ N F [1,1,0,1,0] []
theorem M9 (F:KF R) (b:LA) (c:Nat) (f d:Bool):∀ (n g:Nat) (e:Int) (l:Bool) (i:LA),Aj (LT N F) n (LR b c f d g e l i)=(Dx N (E6 F) b c f d n g e l i)
 | 0,_,_,_,_=>by kernel_rfl
 | n+1,g,e,l,i=>Eq.trans (by kernel_rfl) (Dc (Jz N (E6 F) b c f d · g e l i) (funext fun g=>funext fun e=>funext fun l=>funext fun i=>(M9 F b c f d n g e l i)):_)
theorem Tz (b:LA) (c:Nat) (f d:Bool) (F:KF R):Ga (Xd N) Ty N 44 [(.imm b c 3 f d)] [] F=(Et N b c f d (E6 F)):=by
 rw[Q6]
 exact Eq.trans (by kernel_rfl) (Dc (J3 N (E6 F) · b c f d) (funext fun g=>funext fun e=>funext fun l=>funext fun i=>(Ah ..).trans (M9 N F b c f d N g e l i)):_)
def Q7 (a:LA) (h:Ag) (k:KF R):O R :=
 match a,h with
 | [(.imm b c 3 f d)],[]=>(Et N b c f d (E6 k))
 | _,_=>none
theorem T0:At N 44 @Q7:=by
 intro R Q a h k j;unfold Q7;split;exact Bg (Tz ..) (Tz ..) ⟨QA N,trivial⟩;exact Bi
def LU:=Bf (T0 N)
def LV:=Gi (T0 N)
def Vp (r0:LA→O R) (c:LA) (b:Nat) (f d:Bool) (e:Int) (k1:Int→Int→Nat→LA→O R) (i m:Int) (g:Nat) (o:LA):O R :=
 (cond (decide (i<((b:Nat):Int))) (cond (Af i b) (Gk 3 (c.drop ((i.toNat)*1)) fun r s=>(Et N r s false d (fun p t=>(cond ((Nat.ble (g+1) 140737488355328)&&(Nat.ble ((g+1)*24) 140737488355328)) (k1 (wrap .i64 (i+1)) m (g+1) ((o.take (g*1))++[(.imm (t.take (p*4)) p 4 false false)])) none)))) none) (r0 [(.int .i64 m),(.int .i64 e),(.imm (o.take (g*1)) g 1 false false)]))
def Mc (r0:LA→O R) (c:LA) (b:Nat) (f d:Bool) (e:Int):Nat→Int→Int→Nat→LA→O R
 | 0,_,_,_,_=>none
 | n+1,i,m,g,o=>(Vp N r0 c b f d e (Mc r0 c b f d e n) i m g o)
def Vq (r0:LA→O R) (c:LA) (b:Nat) (f d:Bool) (e:Int) (k0:Int→O R) (k1:Int→Int→Nat→LA→O R) (l:Int):O R :=
 (cond (decide (0<((b:Nat):Int))) (cond (Af 0 b) (Gk 3 c fun u v=>(Et N u v false d (fun q w=>(k1 1 l 1 [(.imm (w.take (q*4)) q 4 false false)])))) none) (r0 [(.int .i64 l),(.int .i64 e),.nsl]))
def Md (r0:LA→O R) (c:LA) (b:Nat) (f d:Bool) (e:Int):Nat→Int→O R
 | 0,_=>none
 | n+1,l=>(Vq N r0 c b f d e (Md r0 c b f d e n) (fun i m g o=>(Mc N r0 c b f d e n i m g o)) l)
def BU (N:Nat) (r0:LA→O R) (q0:Int→O R) (c:LA) (b:Nat) (f d:Bool) (e:Int):O R :=
 (q0 ((b:Nat):Int))
def J4:=(Ak (fun (N:Nat) (c:LA) (b:Nat) (f d:Bool) (e:Int) (r0:LA→O R)=>(BU N r0 (fun l=>(Md N r0 c b f d e N l)) c b f d e))).1
theorem IQ (c b f d e r0):(@J4 R N c b f d e r0)=(BU N r0 (fun l=>(Md N r0 c b f d e N l)) c b f d e):=by rw[J4,(Ak _).2]
def QB:Hints:={ H:=(hS hL (hS hL (hS (hS hL (hS (hP [0,4,5,6] hL) hL)) hL))),modes:=[(3,0)] }
def YT:Ke:=[(44,LU N)]
def g_ (F:KF R):=Rt Try.f25 QB (YT N) [] N F
def G3 (F:KF R):LA→O R:=(fun x=>F (.pagg x false) [])
def gc (c:LA) (b:Nat) (f d:Bool) (e i m:Int) (g:Nat) (o:LA):St:=⟨[(0,(.imm c b 1 f d)),(4,(op 0)),(5,(op 1)),(6,(iv i))],(hq [(bN 0 [(iv 0),(iv 0),.nsl]),(bN 0 [(iv m),(iv e),(.own 300002 0 g)]),(bQ 1 o)])⟩
def gd (c:LA) (b:Nat) (f d:Bool) (e l:Int):St:=⟨[(0,(.imm c b 1 f d)),(4,(op 0)),(5,(op 1)),(6,(iv 0))],(hq [(bN 0 [(iv 0),(iv 0),.nsl]),(bN 0 [(iv l),(iv e),.nsl])])⟩
def QC (F:KF R):=g_ N F [1,1,0,1,0] []
theorem Z0 (F:KF R) (c:LA) (b:Nat) (f d:Bool) (e:Int):∀ (n:Nat) (i m:Int) (g:Nat) (o:LA),Aj (QC N F) n (gc c b f d e i m g o)=(Mc N (G3 F) c b f d e n i m g o)
 | 0,_,_,_,_=>by kernel_rfl
 | n+1,i,m,g,o=>Eq.trans (by kernel_rfl) (Dc (Vp N (G3 F) c b f d e · i m g o) (funext fun i=>funext fun m=>funext fun g=>funext fun o=>(Z0 F c b f d e n i m g o)):_)
theorem Z1 (F:KF R) (c:LA) (b:Nat) (f d:Bool) (e:Int):∀ (n:Nat) (l:Int),Aj (QC N F) n (gd c b f d e l)=(Md N (G3 F) c b f d e n l)
 | 0,_=>by kernel_rfl
 | n+1,l=>Eq.trans (by kernel_rfl) (bz (Vq N (G3 F) c b f d e · · l) (funext fun l=>(Z1 F c b f d e n l)) (funext fun i=>funext fun m=>funext fun g=>funext fun o=>(Z0 N F c b f d e n i m g o)):_)
theorem QD (c:LA) (b:Nat) (f d:Bool) (e:Int) (F:KF R):Ga (YT N) QB N 25 [(.imm c b 1 f d),(iv e)] [] F=(J4 N c b f d e (G3 F)):=by
 rw[IQ]
 exact Eq.trans (by kernel_rfl) (Dc (BU N (G3 F) · c b f d e) (funext fun l=>(Ah ..).trans (Z1 N F c b f d e N l)):_)
def IR (a:LA) (h:Ag) (k:KF R):O R :=
 match a,h with
 | [(.imm c b 1 f d),(.int .i64 e)],[]=>(J4 N c b f d e (G3 k))
 | _,_=>none
theorem QE:At N 25 @IR:=by
 intro R Q a h k j;unfold IR;split;exact Bg (QD ..) (QD ..) ⟨LV N,trivial⟩;exact Bi
def QF:=Bf (QE N)
def QG:=Gi (QE N)
end
end Gx

namespace Gx
open Go
open IntKind (wrap)
section
variable {R:Type}
theorem LW {n:Int} (h1:-9223372036854775808≤n) (h2:n≤9223372036854775807):wrap .i64 n=n:=by
 rw[IntKind.wrap_i64];omega
theorem Mw {j:Nat} (h:j<4611686018427387904):wrap .i64 ((j:Int)+1)=((j+1:Nat):Int):=by rw[LW (by omega) (by omega)];omega
theorem Bk {j n:Nat} (h:j<n):Af (j:Int) n=true:=by simp[Af];omega
theorem Cp {a b:Int} (h:a<b):decide (a<b)=true:=by simpa using h
theorem Ck {a b:Int} (h:¬ a<b):decide (a<b)=false:=by simpa using h
theorem Cs (l:List Int):(Ae l).length=l.length:=by simp[Ae]
theorem mK (l:List Int) (i:Nat) (x:Int):(Ae l).set i (.int .i64 x)=Ae (l.set i x):=by simp[Ae,List.map_set]
theorem mL {l:List Int} {i:Nat} {x:Int} (h:l[i]?=some x):(Ae l)[i]?=some (.int .i64 x):=by simp[Ae,h]
theorem nR {l:List Int} {i:Nat} {x:Int} (h:l[i]?=some x) (K:Int→O R):Ch .i64 ((Ae l).drop i) K=K x:=by
 unfold Ch
 rw[List.head?_drop,mL h]
 simp[asInt,Ho]
theorem p8 {l:List Int} {i:Int} {x:Int} (h:l[i.toNat]?=some x) (K:Int→O R):Ch .i64 ((Ae l).drop (0+i.toNat*1)) K=K x:=by rw[Nat.mul_one,Nat.zero_add];exact nR h K
def GR (c:LA) (rows:List (List Int)):Prop:=c.length=rows.length∧∀ (i:Nat) (r:List Int),rows[i]?=some r→∃ x,c[i]?=some x∧Je 1 x=some (Ae r,r.length)
theorem qX {c:LA} {rows:List (List Int)} (h:GR c rows) {i:Nat} {r:List Int} (hi:rows[i]?=some r) (K:LA→Nat→O R):Gk 1 (c.drop i) K=K (Ae r) r.length:=by
 obtain⟨x,h1,h2⟩:=h.2 i r hi
 unfold Gk
 rw[List.head?_drop,h1]
 simp[h2]
def SA (S:List (List Int)):LA:=S.map fun l=>A6 (Ae l) 0 0
theorem dp (S:List (List Int)):(SA S).length=S.length:=by simp[SA]
theorem FN (S:List (List Int)) (i:Nat) (l:List Int):(SA S).set i (A6 (Ae l) 0 0)=SA (S.set i l):=by simp[SA,List.map_set]
theorem Pm {S:List (List Int)} {i:Nat} {l:List Int} (h:S[i]?=some l) (K:LA→O R):fe ((SA S).drop i) K=K (Ae l):=by
 unfold fe
 rw[List.head?_drop]
 simp[SA,h,Sj,A6]
theorem SO {c:LA} {i:Nat} {l:LA} (h:i<c.length) (K:LA→O R):rB ((c.set i (A6 l 1 0)).drop i) K=K l:=by
 unfold rB
 rw[List.head?_drop,List.getElem?_set_self h]
 simp[dB,A6]
def mM (l:List Int) (x:Int):List Int:=if x ∈ l then l else l++[x]
theorem nS (l:List Int) (x:Int):CB (Ae l) x=decide (x ∈ l):=by
 have:=Kr l x
 unfold Ae
 by_cases h:x ∈ l
 ·rw[this.2 h];simp[h]
 ·simp[h]
  cases hb:CB (l.map fun m=>.int .i64 m) x with
  | false=>rfl
  | true=>exact absurd (this.1 hb) h
theorem YU (l:List Int) (x:Int):Mm (Ae l) x=Ae (mM l x):=by
 unfold Mm mM
 rw[nS]
 by_cases h:x ∈ l
 ·simp[h]
 ·simp[h,Ae]
theorem nT (l:List Int) (x:Int):SY (Ae l) x=Ae (l.erase x):=BC l x
def Sets (n:Nat) (Q:Nat→Nat→Prop) (S:List (List Int)):Prop:=S.length=n∧∀ (i:Nat) (l:List Int),S[i]?=some l→l.Nodup∧∀ x,x ∈ l↔∃ j:Nat,x=(j:Int)∧j<n∧Q i j
theorem Sets.congr {n:Nat} {Q Q':Nat→Nat→Prop} {S:List (List Int)} (h:Sets n Q S) (he:∀ i j,i<n→j<n→(Q' i j↔Q i j)):Sets n Q' S:=by
 refine⟨h.1,fun i l hl=>?_⟩
 have hi:i<n:=by rw[←h.1];exact(List.getElem?_eq_some_iff.1 hl).1
 obtain⟨h1,h2⟩:=h.2 i l hl
 refine⟨h1,fun x=>?_⟩
 rw[h2]
 constructor
 ·rintro⟨j,rfl,hj,hq⟩;exact⟨j,rfl,hj,(he i j hi hj).2 hq⟩
 ·rintro⟨j,rfl,hj,hq⟩;exact⟨j,rfl,hj,(he i j hi hj).1 hq⟩
theorem Sets.get {n:Nat} {Q:Nat→Nat→Prop} {S:List (List Int)} (h:Sets n Q S) {i:Nat} (hi:i<n):∃ l,S[i]?=some l:=⟨_,List.getElem?_eq_getElem (by rw[h.1];exact hi)⟩
theorem Sets.mem {n:Nat} {Q:Nat→Nat→Prop} {S:List (List Int)} (h:Sets n Q S) {i j:Nat} {l:List Int} (hl:S[i]?=some l) (hj:j<n):(j:Int) ∈ l↔Q i j:=by
 rw[(h.2 i l hl).2]
 constructor
 ·rintro⟨k,hk,_,hq⟩;have:k=j:=by omega
  subst this;exact hq
 ·intro hq;exact⟨j,rfl,hj,hq⟩
theorem Sets.add {n:Nat} {Q:Nat→Nat→Prop} {S:List (List Int)} (h:Sets n Q S) {w x:Nat} {l:List Int} (hl:S[w]?=some l) (hx:x<n):Sets n (fun i j=>Q i j∨(i=w∧j=x)) (S.set w (mM l (x:Int))):=by
 have hw:=(List.getElem?_eq_some_iff.1 hl).1
 refine⟨by rw[List.length_set];exact h.1,fun i m hm=>?_⟩
 by_cases e:i=w
 ·subst e
  rw[List.getElem?_set_self hw] at hm;simp at hm;subst hm
  obtain⟨h1,h2⟩:=h.2 i l hl
  unfold mM
  split
  ·rename_i hin
   refine⟨h1,fun y=>?_⟩
   rw[h2]
   constructor
   ·rintro⟨j,rfl,hj,hq⟩;exact⟨j,rfl,hj,.inl hq⟩
   ·rintro⟨j,rfl,hj,hq | ⟨_,rfl⟩⟩
    ·exact⟨j,rfl,hj,hq⟩
    ·exact(h2 _).1 hin
  ·rename_i hin
   refine⟨List.nodup_append.2 ⟨h1,by simp,fun a ha b hb=>by simp at hb;subst hb;exact fun e=>hin (e▸ha)⟩,fun y=>?_⟩
   rw[List.mem_append,h2,List.mem_singleton]
   constructor
   ·rintro(⟨j,rfl,hj,hq⟩ | rfl)
    ·exact⟨j,rfl,hj,.inl hq⟩
    ·exact⟨x,rfl,hx,.inr ⟨rfl,rfl⟩⟩
   ·rintro⟨j,rfl,hj,hq | ⟨_,rfl⟩⟩
    ·exact .inl ⟨j,rfl,hj,hq⟩
    ·exact .inr rfl
 ·rw[List.getElem?_set_ne (Ne.symm e)] at hm
  obtain⟨h1,h2⟩:=h.2 i m hm
  refine⟨h1,fun y=>?_⟩
  rw[h2]
  constructor
  ·rintro⟨j,rfl,hj,hq⟩;exact⟨j,rfl,hj,.inl hq⟩
  ·rintro⟨j,rfl,hj,hq | ⟨e2,_⟩⟩
   ·exact⟨j,rfl,hj,hq⟩
   ·exact absurd e2 e
theorem Sets.del {n:Nat} {Q:Nat→Nat→Prop} {S:List (List Int)} (h:Sets n Q S) {w x:Nat} {l:List Int} (hl:S[w]?=some l):Sets n (fun i j=>Q i j∧¬ (i=w∧j=x)) (S.set w (l.erase (x:Int))):=by
 have hw:=(List.getElem?_eq_some_iff.1 hl).1
 refine⟨by rw[List.length_set];exact h.1,fun i m hm=>?_⟩
 by_cases e:i=w
 ·subst e
  rw[List.getElem?_set_self hw] at hm;simp at hm;subst hm
  obtain⟨h1,h2⟩:=h.2 i l hl
  refine⟨h1.erase _,fun y=>?_⟩
  rw[h1.mem_erase_iff,h2]
  constructor
  ·rintro⟨hy,j,rfl,hj,hq⟩;exact⟨j,rfl,hj,hq,fun ⟨_,e⟩=>hy (by rw[e])⟩
  ·rintro⟨j,rfl,hj,hq,hne⟩;exact⟨fun e=>hne ⟨rfl,by omega⟩,j,rfl,hj,hq⟩
 ·rw[List.getElem?_set_ne (Ne.symm e)] at hm
  obtain⟨h1,h2⟩:=h.2 i m hm
  refine⟨h1,fun y=>?_⟩
  rw[h2]
  constructor
  ·rintro⟨j,rfl,hj,hq⟩;exact⟨j,rfl,hj,hq,fun ⟨e2,_⟩=>e e2⟩
  ·rintro⟨j,rfl,hj,hq,_⟩;exact⟨j,rfl,hj,hq⟩
def Cx (n:Nat) (A:Nat→Nat→Bool) (v:Nat):List Nat:=(List.range n).filter (A v)
def Bb (l:List Nat):List Int:=l.map fun (x:Nat)=>(x:Int)
theorem Ew {n:Nat} {A:Nat→Nat→Bool} {v x:Nat}:x ∈ Cx n A v↔x<n∧A v x=true:=by simp[Cx]
theorem jo (n:Nat) (A:Nat→Nat→Bool) (v:Nat):(Bb (Cx n A v)).Pairwise (·≤·):=by
 unfold Bb Cx
 rw[List.pairwise_map]
 exact(List.pairwise_lt_range.sublist List.filter_sublist).imp (fun h=>by omega)
theorem cU (n:Nat) (A:Nat→Nat→Bool) (v:Nat):(Cx n A v).Nodup:=List.nodup_range.sublist List.filter_sublist
theorem Sets.sort {n:Nat} {A:Nat→Nat→Bool} {S:List (List Int)} (h:Sets n (fun i j=>A i j=true) S) {v:Nat} {l:List Int} (hl:S[v]?=some l):D_ l=Bb (Cx n A v)∧l.length=(Cx n A v).length:=by
 obtain⟨h1,h2⟩:=h.2 v l hl
 have hnd:(Bb (Cx n A v)).Nodup:=by
  unfold Bb
  exact List.Pairwise.map _ (fun a b hab e=>hab (by omega)) (cU n A v)
 have hp:l.Perm (Bb (Cx n A v)):=(List.perm_ext_iff_of_nodup h1 hnd).2 (fun x=>by
  rw[h2]
  unfold Bb
  rw[List.mem_map]
  constructor
  ·rintro⟨j,rfl,hj,hq⟩;exact⟨j,Ew.2 ⟨hj,hq⟩,rfl⟩
  ·rintro⟨j,hj,rfl⟩;exact⟨j,rfl,(Ew.1 hj).1,(Ew.1 hj).2⟩)
 refine⟨?_,by rw[hp.length_eq];simp[Bb]⟩
 have h3:(D_ l).Perm (Bb (Cx n A v)):=(Vi l).trans hp
 exact List.Perm.eq_of_pairwise (le:=fun a b:Int=>a≤b) (fun a b _ _ h3 h4=>by omega) (Vj l) (jo n A v) h3
end
end Gx

namespace Gx
open Go
open IntKind (wrap)
section
variable {R:Type}
theorem YV {l:List Nat} {i x:Nat} (h:l[i]?=some x):(Bb l)[i]?=some (x:Int):=by simp[Bb,h]
theorem G4 (l:List Nat):(Bb l).length=l.length:=by simp[Bb]
theorem C7 {α:Type} {l:List α} {i:Nat} {x:α} (h:l[i]?=some x):l.take (i+1)=l.take i++[x]:=by rw[List.take_add_one,h];rfl
def Z2 (Q:Nat→Nat→Prop) (w:Nat) (P:List Nat) (i j:Nat):Prop:=Q i j∨(i=w∧j ∈ P)∨(j=w∧i ∈ P)
theorem YW {N n w k:Nat} {c g:Int} {d:Nat} {nb:List Nat} {Q:Nat→Nat→Prop} {f:Nat→Bool} {k0:Int→Int→Int→LA→O R} {r0:Nat→Int→LA→LA→O R} {Y:O R}
  (hn:n≤1000) (hw:w<n) (hk:nb[k]?=some w) (hnb:∀ x ∈ nb,x<n) (hnd:nb.Nodup) (hl:nb.length≤1000) (hf:∀ x,x ∈ nb.take k→(Q w x↔f x=false)) (hs:∀ x,x ∈ nb.take k→Q w x→Q x w) :
  ∀ (fuel p:Nat) (q:Int) (S:List (List Int)),Sets n (Z2 Q w (nb.take p)) S→p≤k→k - p<fuel→0≤q→q+(k:Int) - p≤1000000000000 →
   (∀ S',Sets n (Z2 Q w (nb.take k)) S'→k0 (q+(((nb.take k).drop p).countP f:Nat)) g ((k+1:Nat):Int) (SA S')=Y) →
   B8 N k0 r0 n c d (w:Int) g (Ae (Bb nb)) fuel q (k:Int) k (k:Int) (p:Int) (SA S)=Y
 | 0,p,q,S,_,_,h,_,_,_=>by omega
 | fuel+1,p,q,S,hS,hp,hfu,hq0,hq,hK=>by
  rw[B8,F7]
  have hkl:=(List.getElem?_eq_some_iff.1 hk).1
  by_cases hlt:p<k
  ·obtain⟨x,hx⟩:∃ x,nb[p]?=some x:=⟨_,List.getElem?_eq_getElem (by omega)⟩
   have hxn:=hnb x (List.mem_of_getElem? hx)
   have hxk:x ∈ nb.take k:=List.mem_of_getElem? (i:=p) (by rw[List.getElem?_take_of_lt hlt];exact hx)
   have hxw:x≠w:=fun e=>by
    subst e
    obtain⟨h1,h2⟩:=List.getElem?_eq_some_iff.1 hx
    obtain⟨h3,h4⟩:=List.getElem?_eq_some_iff.1 hk
    have:=(List.getElem_inj hnd).1 (h2.trans h4.symm)
    omega
   have hxp:x ∉ nb.take p:=fun hm=>by
    obtain⟨j,hj⟩:=List.getElem?_of_mem hm
    rw[List.getElem?_take] at hj
    split at hj
    ·obtain⟨h1,h2⟩:=List.getElem?_eq_some_iff.1 hx
     obtain⟨h3,h4⟩:=List.getElem?_eq_some_iff.1 hj
     have:=(List.getElem_inj hnd).1 (h4.trans h2.symm)
     omega
    ·cases hj
   have hdrop:(nb.take k).drop p=x::(nb.take k).drop (p+1):=by
    rw[List.drop_eq_getElem_cons (by simp;omega)]
    congr 1
    obtain⟨h1,h2⟩:=List.getElem?_eq_some_iff.1 hx
    simp[h2]
   obtain⟨lw,hlw⟩:=hS.get hw
   have hlwl:=(List.getElem?_eq_some_iff.1 hlw).1
   rw[Cp (by omega),cond_true,Bk (by omega:p<k),cond_true,p8 (i:=(p:Int)) (by simpa using YV hx),Bk hw,cond_true]
   simp only[Int.toNat_natCast]
   rw[Pm hlw,nS,Mw (by omega)]
   have hmem:(x:Int) ∈ lw↔Z2 Q w (nb.take p) w x:=hS.mem hlw hxn
   have hmem2:(x:Int) ∈ lw↔f x=false:=by
    rw[hmem]
    unfold Z2
    constructor
    ·rintro(h | ⟨_,h⟩ | ⟨h,_⟩)
     ·exact(hf x hxk).1 h
     ·exact absurd h hxp
     ·exact absurd h hxw
    ·intro h;exact .inl ((hf x hxk).2 h)
   by_cases hin:(x:Int) ∈ lw
   ·have hfx:=hmem2.1 hin
    simp only[hin,decide_true,Bool.not_true,cond_false]
    refine YW hn hw hk hnb hnd hl hf hs fuel (p+1) q S (hS.congr fun i j hi hj=>?_) (by omega) (by omega) hq0 (by omega) (fun S' hS'=>?_)
    ·rw[C7 hx]
     have h0:=hmem.1 hin
     have h5:Q w x:=(hf x hxk).2 hfx
     unfold Z2 at h0 ⊢
     constructor
     ·rintro(h | ⟨rfl,h⟩ | ⟨rfl,h⟩)
      ·exact .inl h
      ·rcases List.mem_append.1 h with h | h
       ·exact .inr (.inl ⟨rfl,h⟩)
       ·simp at h;subst h;exact .inl h5
      ·rcases List.mem_append.1 h with h | h
       ·exact .inr (.inr ⟨rfl,h⟩)
       ·simp at h;subst h
        exact .inl (hs _ hxk h5)
     ·rintro(h | ⟨rfl,h⟩ | ⟨rfl,h⟩)
      ·exact .inl h
      ·exact .inr (.inl ⟨rfl,by simp[h]⟩)
      ·exact .inr (.inr ⟨rfl,by simp[h]⟩)
    ·have:=hK S' hS'
     rw[hdrop,List.countP_cons,hfx] at this
     simpa using this
   ·have hfx:f x=true:=by cases h:f x with | true=>rfl | false=>exact absurd (hmem2.2 h) hin
    simp only[hin,decide_false,Bool.not_false,cond_true]
    have S1:=hS.add hlw hxn
    rw[Bk hxn,cond_true,Pm hlw]
    simp only[Nat.beq_refl,cond_true]
    rw[SO (by rw[dp];exact hlwl),YU]
    obtain⟨lx,hlx⟩:=S1.get hxn
    rw[List.set_set,FN,Pm hlx,SO (by rw[dp];rw[S1.1];exact hxn),YU,List.set_set,FN,LW (by omega) (by omega)]
    have S2:=S1.add hlx hw
    refine YW hn hw hk hnb hnd hl hf hs fuel (p+1) (q+1) _ (S2.congr fun i j hi hj=>?_) (by omega) (by omega) (by omega) (by omega) (fun S' hS'=>?_)
    ·rw[C7 hx]
     unfold Z2
     simp only[List.mem_append,List.mem_singleton]
     constructor
     ·rintro(h | ⟨rfl,h | rfl⟩ | ⟨rfl,h | rfl⟩)
      ·exact .inl (.inl (.inl h))
      ·exact .inl (.inl (.inr (.inl ⟨rfl,h⟩)))
      ·exact .inl (.inr ⟨rfl,rfl⟩)
      ·exact .inl (.inl (.inr (.inr ⟨rfl,h⟩)))
      ·exact .inr ⟨rfl,rfl⟩
     ·rintro(((h | ⟨rfl,h⟩ | ⟨rfl,h⟩) | ⟨rfl,rfl⟩) | ⟨rfl,rfl⟩)
      ·exact .inl h
      ·exact .inr (.inl ⟨rfl,.inl h⟩)
      ·exact .inr (.inr ⟨rfl,.inl h⟩)
      ·exact .inr (.inl ⟨rfl,.inr rfl⟩)
      ·exact .inr (.inr ⟨rfl,.inr rfl⟩)
    ·have:=hK S' hS'
     rw[hdrop,List.countP_cons,hfx] at this
     rw[←this]
     congr 1
     simp;omega
  ·have:p=k:=by omega
   subst this
   rw[Ck (by omega),cond_false,Mw (by omega)]
   have:=hK S hS
   simpa using this
end
end Gx

namespace Gx
open Go
open IntKind (wrap)
section
variable {R:Type}
structure Gr (A:Nat→Nat→Bool):Prop where
 sym:∀ i j,A i j=A j i
 irr:∀ i,A i i=false
def Kk (A:Nat→Nat→Bool) (v:Nat):Nat→Nat→Bool:=fun i j=>(i != v&&j != v)&&(A i j||(i != j&&(A v i&&A v j)))
theorem YX {A:Nat→Nat→Bool} (h:Gr A) (v:Nat):Gr (Kk A v):=by
 refine⟨fun i j=>?_,fun i=>?_⟩
 ·unfold Kk
  rw[h.sym i j,Bool.and_comm (i != v),Bool.and_comm (A v i)]
  congr 2
  rw[bne_comm]
 ·unfold Kk;simp[h.irr]
def Z3 (A:Nat→Nat→Bool):List Nat→List Nat→Nat
 | _,[]=>0
 | pre,w::r=>pre.countP (fun x=>!A w x)+Z3 A (pre++[w]) r
def YY (A:Nat→Nat→Bool) (v:Nat) (P:List Nat) (i j:Nat):Prop:=(A i j=true∨(i≠j∧i ∈ P∧j ∈ P))∧¬ ((i=v∧j ∈ P)∨(j=v∧i ∈ P))
theorem ge {N n v:Nat} {A:Nat→Nat→Bool} {r0:Nat→Int→LA→LA→O R} {Y:O R} (hA:Gr A) (hn:n≤1000) (hN:2000≤N) (hv:v<n) :
  ∀ (fuel k:Nat) (o:Int) (S:List (List Int)),Sets n (YY A v ((Cx n A v).take k)) S→k≤(Cx n A v).length→(Cx n A v).length - k<fuel→0≤o→o≤1000*k →
   (∀ S',Sets n (fun i j=>Kk A v i j=true) S'→r0 (Cx n A v).length (o+(Z3 A ((Cx n A v).take k) ((Cx n A v).drop k):Nat)) (SA S') (Ae (Bb (Cx n A v)))=Y) →
   A8 N r0 n (v:Int) (Cx n A v).length (Ae (Bb (Cx n A v))) fuel o ((Cx n A v).length:Int) (k:Int) (SA S)=Y
 | 0,k,o,S,_,_,h,_,_,_=>by omega
 | fuel+1,k,o,S,hS,hk,hfu,ho0,ho,hK=>by
  have hnb:∀ x ∈ Cx n A v,x<n:=fun x hx=>(Ew.1 hx).1
  have hnd:=cU n A v
  have hlen:(Cx n A v).length≤n:=by unfold Cx;exact Nat.le_trans (List.length_filter_le _ _) (by simp)
  rw[A8,F8]
  by_cases hlt:k<(Cx n A v).length
  ·obtain⟨w,hw⟩:∃ w,(Cx n A v)[k]?=some w:=⟨_,List.getElem?_eq_getElem hlt⟩
   have hwm:=List.mem_of_getElem? hw
   have hwn:=hnb w hwm
   have hAw:=(Ew.1 hwm).2
   have hwv:w≠v:=fun e=>by subst e;rw[hA.irr] at hAw;cases hAw
   have hwk:w ∉ (Cx n A v).take k:=fun hm=>by
    obtain⟨j,hj⟩:=List.getElem?_of_mem hm
    rw[List.getElem?_take] at hj
    split at hj
    ·obtain⟨h1,h2⟩:=List.getElem?_eq_some_iff.1 hw
     obtain⟨h3,h4⟩:=List.getElem?_eq_some_iff.1 hj
     have:=(List.getElem_inj hnd).1 (h4.trans h2.symm)
     omega
    ·cases hj
   have hvk:∀ m,v ∉ (Cx n A v).take m:=fun m hm=>by
    have:=(Ew.1 (List.mem_of_mem_take hm)).2
    rw[hA.irr] at this;cases this
   obtain⟨lw,hlw⟩:=hS.get hwn
   have S1:=hS.del (x:=v) hlw
   obtain⟨lv,hlv⟩:=S1.get hv
   have S2:=S1.del (x:=w) hlv
   rw[Cp (by omega),cond_true,Bk hlt,cond_true,p8 (i:=(k:Int)) (by simpa using YV hw),Bk hwn,cond_true]
   simp only[Int.toNat_natCast]
   rw[Pm hlw,nT,Bk hv,cond_true,FN,Pm hlv,nT,FN]
   have hb:(decide ((0:Int)≤0)&&(decide ((0:Int)≤(k:Int))&&(decide ((k:Int)≤(((Cx n A v).length:Nat):Int))&&decide ((((Cx n A v).length:Nat):Int)≤(((Cx n A v).length:Nat):Int)))))=true:=by simp;omega
   rw[hb,cond_true]
   have inner:=YW (R:=R) (N:=N) (n:=n) (w:=w) (k:=k) (c:=(v:Int)) (g:=((Cx n A v).length:Int)) (d:=(Cx n A v).length) (nb:=Cx n A v)
    (Q:=fun i j=>(YY A v ((Cx n A v).take k) i j∧¬ (i=w∧j=v))∧¬ (i=v∧j=w)) (f:=fun x=>!A w x)
    (k0:=A8 N r0 n (v:Int) (Cx n A v).length (Ae (Bb (Cx n A v))) fuel) (r0:=r0) (Y:=Y) hn hwn hw hnb hnd (by omega)
    (fun x hx=>by
     have hxv:x≠v:=fun e=>by subst e;exact hvk k hx
     unfold YY
     simp only[Bool.not_eq_false',hwk,hxv,hwv,false_and,and_false,or_false,not_false_eq_true,and_true])
    (fun x hx h=>by
     have hxv:x≠v:=fun e=>by subst e;exact hvk k hx
     have hxw:x≠w:=fun e=>by subst e;exact hwk hx
     unfold YY at h ⊢
     simp only[hwk,hxv,hwv,false_and,and_false,or_false,not_false_eq_true,and_true] at h ⊢
     rw[hA.sym];exact h)
   have e0:((k:Nat):Int)=((((k:Nat):Int).toNat:Nat):Int):=by simp
   refine inner N 0 o _ (S2.congr fun i j hi hj=>?_) (Nat.zero_le _) (by omega) ho0 (by omega) (fun S' hS'=>?_)
   ·unfold Z2;simp
   ·have h9:(1000:Int)*((k+1:Nat):Int)=1000*k+1000:=by omega
    have h10:(((Cx n A v).take k).countP (fun x=>!A w x))≤1000:=Nat.le_trans List.countP_le_length (by simp;omega)
    refine ge hA hn hN hv fuel (k+1) _ S' (hS'.congr fun i j hi hj=>?_) (by omega) (by omega) (by simp;omega) (by simp;omega) (fun S'' hS''=>?_)
    ·rw[C7 hw]
     unfold Z2 YY
     simp only[List.mem_append,List.mem_singleton]
     constructor
     ·rintro⟨h1,h2⟩
      simp only[not_or,not_and] at h2
      by_cases hiw:i=w
      ·subst hiw
       by_cases hjk:j ∈ (Cx n A v).take k
       ·exact .inr (.inl ⟨rfl,hjk⟩)
       ·left
        have hjv:j≠v:=fun e=>by have:=(h2.2 e);simp at this
        refine⟨⟨⟨?_,?_⟩,fun h=>hjv h.2⟩,fun h=>hwv h.1⟩
        ·rcases h1 with h1 | ⟨h3,_,h5 | h5⟩
         ·exact .inl h1
         ·exact absurd h5 hjk
         ·exact absurd h5.symm h3
        ·rintro(⟨h3,_⟩ | ⟨h3,_⟩)
         ·exact hwv h3
         ·exact hjv h3
      ·by_cases hjw:j=w
       ·subst hjw
        by_cases hik:i ∈ (Cx n A v).take k
        ·exact .inr (.inr ⟨rfl,hik⟩)
        ·left
         have hiv:i≠v:=fun e=>by have:=(h2.1 e);simp at this
         refine⟨⟨⟨?_,?_⟩,fun h=>hwv h.2⟩,fun h=>hiv h.1⟩
         ·rcases h1 with h1 | ⟨h3,h4 | h4,_⟩
          ·exact .inl h1
          ·exact absurd h4 hik
          ·exact absurd h4 h3
         ·rintro(⟨h3,_⟩ | ⟨h3,_⟩)
          ·exact hiv h3
          ·exact hwv h3
       ·left
        refine⟨⟨⟨?_,?_⟩,fun h=>hiw h.1⟩,fun h=>hjw h.2⟩
        ·rcases h1 with h1 | ⟨h3,h4 | h4,h5 | h5⟩
         ·exact .inl h1
         ·exact .inr ⟨h3,h4,h5⟩
         ·exact absurd h5 hjw
         ·exact absurd h4 hiw
         ·exact absurd h4 hiw
        ·rintro(⟨h3,h4⟩ | ⟨h3,h4⟩)
         ·exact(h2.1 h3).1 h4
         ·exact(h2.2 h3).1 h4
     ·rintro(⟨⟨⟨h1,h2⟩,h3⟩,h4⟩ | ⟨rfl,h5⟩ | ⟨rfl,h5⟩)
      ·refine⟨?_,?_⟩
       ·rcases h1 with h1 | ⟨h5,h6,h7⟩
        ·exact .inl h1
        ·exact .inr ⟨h5,.inl h6,.inl h7⟩
       ·rintro(⟨h5,h6 | h6⟩ | ⟨h5,h6 | h6⟩)
        ·exact h2 (.inl ⟨h5,h6⟩)
        ·exact h4 ⟨h5,h6⟩
        ·exact h2 (.inr ⟨h5,h6⟩)
        ·exact h3 ⟨h6,h5⟩
      ·refine⟨.inr ⟨fun e=>by subst e;exact hwk h5,.inr rfl,.inl h5⟩,?_⟩
       rintro(⟨h6,_⟩ | ⟨h6,_⟩)
       ·exact hwv h6
       ·subst h6;exact hvk k h5
      ·refine⟨.inr ⟨fun e=>by subst e;exact hwk h5,.inl h5,.inr rfl⟩,?_⟩
       rintro(⟨h6,_⟩ | ⟨h6,_⟩)
       ·subst h6;exact hvk k h5
       ·exact hwv h6
    ·have:=hK S'' hS''
     rw[List.drop_eq_getElem_cons hlt,Z3] at this
     obtain⟨h1,h2⟩:=List.getElem?_eq_some_iff.1 hw
     rw[h2] at this
     rw[C7 hw,←this]
     congr 1
     simp;omega
  ·have hke:k=(Cx n A v).length:=by omega
   rw[Ck (by omega),cond_false]
   have:=hK S (hS.congr fun i j hi hj=>?_)
   ·rw[hke,List.take_length,List.drop_length,Z3] at this
    simpa using this
   ·rw[hke,List.take_length]
    unfold YY Kk
    have hm:∀ x,x<n→(x ∈ Cx n A v↔A v x=true):=fun x hx=>by rw[Ew];exact⟨fun h=>h.2,fun h=>⟨hx,h⟩⟩
    rw[hm i hi,hm j hj]
    simp only[Bool.and_eq_true,Bool.or_eq_true,bne_iff_ne,ne_eq]
    constructor
    ·rintro⟨⟨h1,h2⟩,h3⟩
     exact⟨h3.imp id (fun h=>⟨h.1,h.2.1,h.2.2⟩),fun h=>by rcases h with⟨h4,_⟩ | ⟨h4,_⟩;exact h1 h4;exact h2 h4⟩
    ·rintro⟨h1,h2⟩
     simp only[not_or,not_and] at h2
     refine⟨⟨fun e=>?_,fun e=>?_⟩,h1⟩
     ·subst e
      rcases h1 with h1 | ⟨_,h4,_⟩
      ·exact h2.1 rfl h1
      ·rw[hA.irr] at h4;cases h4
     ·subst e
      rcases h1 with h1 | ⟨_,_,h4⟩
      ·exact h2.2 rfl (by rw[hA.sym];exact h1)
      ·rw[hA.irr] at h4;cases h4
theorem Vr {N n v:Nat} {A:Nat→Nat→Bool} {S:List (List Int)} {K:Nat→Int→LA→LA→O R} {Y:O R} (hA:Gr A) (hn:n≤1000) (hN:2000≤N) (hv:v<n) (hS:Sets n (fun i j=>A i j=true) S)
  (hK:∀ S',Sets n (fun i j=>Kk A v i j=true) S'→K (Cx n A v).length (Z3 A [] (Cx n A v):Nat) (SA S') (Ae (Bb (Cx n A v)))=Y) :
  Bu N n (v:Int) (SA S) K=Y:=by
 rw[Kg,Fk,Co,Cq]
 obtain⟨l,hl⟩:=hS.get hv
 obtain⟨h1,h2⟩:=hS.sort hl
 have hlen:(Cx n A v).length≤n:=by unfold Cx;exact Nat.le_trans (List.length_filter_le _ _) (by simp)
 have hall:(Ae l).all IE=true:=by
  rw[List.all_eq_true]
  intro x hx
  unfold Ae at hx
  obtain⟨m,hm,rfl⟩:=List.mem_map.1 hx
  obtain⟨j,rfl,hj,_⟩:=((hS.2 v l hl).2 m).1 hm
  simp[IE];omega
 have hsl:Wv (Ae l)=Ae (Bb (Cx n A v)):=by unfold Wv;rw[Tm,h1]
 rw[Bk hv,cond_true]
 simp only[Int.toNat_natCast]
 rw[Pm hl,hall,Cs,h2,hsl]
 have hble:Nat.ble (Cx n A v).length 16777216=true:=by simp;omega
 rw[hble,Bool.and_self,cond_true]
 refine ge hA hn hN hv N 0 0 S (hS.congr fun i j hi hj=>?_) (Nat.zero_le _) (by omega) (Int.le_refl _) (by simp) (fun S' hS'=>?_)
 ·unfold YY;simp
 ·have:=hK S' hS'
  simpa using this
end
end Gx

namespace Gx
open Go
open IntKind (wrap)
section
variable {R:Type}
theorem Na {l:List Int} {k:Nat} (h:k<l.length) (K:Int→O R):Ch .i64 ((Ae l).drop (((k:Nat):Int).toNat*1)) K=K (l.getD k 0):=by
 rw[Int.toNat_natCast,Nat.mul_one]
 exact nR (by rw[List.getD_eq_getElem?_getD,List.getElem?_eq_getElem h];rfl) K
theorem Z4 {l:List Int} {k:Nat} (h:k<l.length) (K:Int→O R):Ch .i64 ((Ae l).drop (0+((k:Nat):Int).toNat*1)) K=K (l.getD k 0):=by
 rw[Nat.zero_add];exact Na h K
def Bq (rows:List (List Int)) (i:Nat):List Int:=rows.getD i []
theorem YZ {rows:List (List Int)} {i:Nat} (h:i<rows.length):rows[i]?=some (Bq rows i):=by
 unfold Bq;rw[List.getD_eq_getElem?_getD,List.getElem?_eq_getElem h];rfl
theorem cV {c:LA} {rows:List (List Int)} (h:GR c rows) {k:Nat} (hk:k<rows.length) (K:LA→Nat→O R):Gk 1 (c.drop (((k:Nat):Int).toNat*1)) K=K (Ae (Bq rows k)) (Bq rows k).length:=by
 rw[Int.toNat_natCast,Nat.mul_one]
 exact qX h (YZ hk) K
def FO (n i:Nat) (r:List Int) (k:Nat):Bool:=decide (0≤r.getD k 0)&&(decide (r.getD k 0<(n:Int))&&(decide (r.getD k 0≠(i:Int))&&(decide (k=0)||decide (r.getD (k - 1) 0<r.getD k 0))))
def dq (rows:List (List Int)) (i:Nat) (k:Nat):Bool:=decide ((i:Int) ∈ Bq rows ((Bq rows i).getD k 0).toNat)
def E8 (k m:Nat) (p:Nat→Bool):Bool:=(List.range' k m).all p
theorem R2 (k:Nat) (p:Nat→Bool):E8 k 0 p=true:=rfl
theorem Pn (k m:Nat) (p:Nat→Bool):E8 k (m+1) p=(p k&&E8 (k+1) m p):=by simp[E8,List.range'_succ]
theorem Br {k m:Nat} {p:Nat→Bool}:E8 k m p=true↔∀ i,k≤i→i<k+m→p i=true:=by
 unfold E8;rw[List.all_eq_true];constructor
 ·intro h i h1 h2;exact h i (by rw[List.mem_range'_1];omega)
 ·intro h i hi;rw[List.mem_range'_1] at hi;exact h i hi.1 hi.2
def vG (rows:List (List Int)):Bool:=E8 0 rows.length (fun i=>E8 0 (Bq rows i).length (FO rows.length i (Bq rows i)))&&E8 0 rows.length (fun i=>E8 0 (Bq rows i).length (dq rows i))
theorem getD_some {l:List Int} {k:Nat} (h:k<l.length):l[k]?=some (l.getD k 0):=by
 rw[List.getD_eq_getElem?_getD,List.getElem?_eq_getElem h];rfl
theorem dr {n i:Nat} {r:List Int} (h:E8 0 r.length (FO n i r)=true):r.Pairwise (·<·):=by
 rw[Br] at h
 have key:∀ (d k:Nat),k+d+1<r.length→r.getD k 0<r.getD (k+d+1) 0:=by
  intro d
  induction d with
  | zero =>
   intro k hk
   have:=h (k+1) (by omega) (by omega)
   simp[FO] at this
   simpa using this.2.2.2
  | succ d ih =>
   intro k hk
   have h1:=ih k (by omega)
   have:=h (k+(d+1)+1) (by omega) (by omega)
   simp only[FO,Bool.and_eq_true,Bool.or_eq_true,decide_eq_true_eq] at this
   have h2:=this.2.2.2.resolve_left (by omega)
   have e:k+(d+1)+1 - 1=k+d+1:=by omega
   rw[e] at h2
   omega
 rw[List.pairwise_iff_getElem]
 intro a b ha hb hab
 have:=key (b - a - 1) a (by omega)
 have e:a+(b - a - 1)+1=b:=by omega
 rw[e] at this
 have ea:=getD_some ha
 have eb:=getD_some hb
 rw[List.getElem?_eq_getElem ha] at ea
 rw[List.getElem?_eq_getElem hb] at eb
 injection ea with ea
 injection eb with eb
 omega
theorem pI {N:Nat} (x e:Int) (K:Bool→O R):Jm N x e K=K (decide (x<e)):=by
 rw[S9];unfold Ru
 rw[P7];unfold Oq
 simp
theorem dt {N:Nat} {l:List Int} {e:Int} {f g:Bool} {r0:Int→Bool→O R} {Y:O R} (hs:l.Pairwise (·<·)) (hl:l.length≤1000) (hK:∀ p,r0 p (decide (e ∈ l))=Y) :
  ∀ (fuel b i:Nat),b≤i→i≤l.length→i - b<fuel→(∀ (k:Nat),k<l.length→k<b→l.getD k 0<e)→(∀ (k:Nat),k<l.length→i≤k→e≤l.getD k 0) →
   A2 N r0 (Ae l) l.length f g e fuel (l.length:Int) (b:Int) (i:Int)=Y
 | 0,_,_,_,_,h,_,_=>by omega
 | fuel+1,b,i,hbi,hil,hfu,h1,h2=>by
  have hmono:∀ (a c:Nat),a<c→c<l.length→l.getD a 0<l.getD c 0:=by
   intro a c hac hc
   have:=(List.pairwise_iff_getElem.1 hs) a c (by omega) hc hac
   have ea:=getD_some (show a<l.length by omega)
   have ec:=getD_some hc
   rw[List.getElem?_eq_getElem (by omega)] at ea ec
   injection ea with ea
   injection ec with ec
   omega
  have hmem:∀ (k:Nat),k<l.length→l.getD k 0=e→e ∈ l:=by
   intro k hk h
   rw[←h];exact List.mem_of_getElem? (getD_some hk)
  have hmem2:e ∈ l→∃ k:Nat,k<l.length∧l.getD k 0=e:=by
   intro h
   obtain⟨k,hk⟩:=List.getElem?_of_mem h
   have hkl:=(List.getElem?_eq_some_iff.1 hk).1
   exact⟨k,hkl,by rw[getD_some hkl] at hk;injection hk⟩
  rw[A2,C8]
  by_cases hlt:b<i
  ·have hw:wrap .i64 (Int.fdiv (wrap .u64 (wrap .i64 ((b:Int)+(i:Int)))) (2 ^ 1))=(((b+i)/2:Nat):Int):=by
    have e1:wrap .i64 ((b:Int)+(i:Int))=((b+i:Nat):Int):=by rw[LW (by omega) (by omega)];omega
    have e2:wrap .u64 (((b+i:Nat):Int))=((b+i:Nat):Int):=by rw[IntKind.wrap_u64];omega
    have e3:Int.fdiv (((b+i:Nat):Int)) (2 ^ 1)=(((b+i)/2:Nat):Int):=by
     rw[Int.fdiv_eq_ediv_of_nonneg _ (by decide)];rfl
    rw[e1,e2,e3,LW (by omega) (by omega)]
   have hm:(b+i)/2<l.length:=by omega
   rw[Cp (by omega),cond_true,hw,Bk hm,cond_true,Na hm,pI,Mw (by omega)]
   by_cases hx:l.getD ((b+i)/2) 0<e
   ·rw[Cp hx,cond_true]
    refine dt hs hl hK fuel ((b+i)/2+1) i (by omega) hil (by omega) (fun k hk hkb=>?_) h2
    by_cases hke:k=(b+i)/2
    ·subst hke;exact hx
    ·exact Int.lt_trans (hmono k _ (by omega) hm) hx
   ·rw[Ck hx,cond_false]
    refine dt hs hl hK fuel b ((b+i)/2) (by omega) (by omega) (by omega) h1 (fun k hk hkb=>?_)
    by_cases hke:k=(b+i)/2
    ·subst hke;omega
    ·have:=hmono ((b+i)/2) k (by omega) hk;omega
  ·have hbe:b=i:=by omega
   subst hbe
   rw[Ck (by omega),cond_false]
   by_cases hbl:b<l.length
   ·rw[Cp (by omega)]
    simp only[beq_self_eq_true,cond_true]
    rw[Bk hbl,cond_true,Na hbl]
    by_cases hx:l.getD b 0=e
    ·have hin:=hmem b hbl hx
     have:=hK (b:Int)
     rw[decide_eq_true hin] at this
     simp only[hx,beq_self_eq_true,Bool.true_eq_false,beq_iff_eq]
     simpa using this
    ·have hno:e ∉ l:=fun h=>by
      obtain⟨k,hk,hke⟩:=hmem2 h
      by_cases hkb:k<b
      ·have:=h1 k hk hkb;omega
      ·by_cases hkb2:k=b
       ·subst hkb2;exact hx hke
       ·have:=hmono b k (by omega) hk
        have:=h2 b hbl (Nat.le_refl _)
        omega
     have:=hK (b:Int)
     rw[decide_eq_false hno] at this
     have hbf:(l.getD b 0==e)=false:=by simpa using hx
     rw[hbf]
     simp only[beq_self_eq_true,cond_true]
     rw[Na hbl,Ti]
     unfold Rw
     simpa using this
   ·have hno:e ∉ l:=fun h=>by
     obtain⟨k,hk,hke⟩:=hmem2 h
     have:=h1 k hk (by omega);omega
    have:=hK (b:Int)
    rw[decide_eq_false hno] at this
    rw[Ck (by omega)]
    simpa using this
theorem rI {N:Nat} {l:List Int} {e:Int} {f g:Bool} {r0:Int→Bool→O R} {Y:O R} (hN:2000≤N) (hs:l.Pairwise (·<·)) (hl:l.length≤1000) (hK:∀ p,r0 p (decide (e ∈ l))=Y) :
  Be N (Ae l) l.length f g e r0=Y:=by
 rw[Ft,Cl]
 exact dt hs hl hK N 0 l.length (Nat.zero_le _) (Nat.le_refl _) (by omega) (fun k _ h=>by omega) (fun k h1 h2=>by omega)
end
end Gx

namespace Gx
open Go
open IntKind (wrap)
section
variable {R:Type}
theorem gf {r:List Int} {k:Nat} {n:Nat} (h0:0≤r.getD k 0) (h:r.getD k 0<(n:Int)):r.getD k 0=(((r.getD k 0).toNat:Nat):Int)∧(r.getD k 0).toNat<n:=by omega
theorem p9 {N n i:Nat} {f s:Int} {r:List Int} {d:LA} {e c:Bool} {k0:Int→Int→O R} {r0:Bool→O R} (hr:r.length≤1000) :
  ∀ (fuel l:Nat),l≤r.length→r.length - l<fuel→Iz N k0 r0 d n e c (Ae r) r.length f fuel (i:Int) s (r.length:Int) (l:Int)=cond (E8 l (r.length - l) (FO n i r)) (k0 f (wrap .i64 (s+1))) (r0 false)
 | 0,_,_,h=>by omega
 | fuel+1,l,hl,hf=>by
  rw[Iz,Ve]
  by_cases hlt:l<r.length
  ·rw[Cp (by omega),cond_true,Bk hlt,cond_true,Na hlt]
   have e1:r.length - l=(r.length - (l+1))+1:=by omega
   rw[e1,Pn]
   have ih:=p9 (N:=N) (n:=n) (i:=i) (f:=f) (s:=s) (d:=d) (e:=e) (c:=c) (k0:=k0) (r0:=r0) hr fuel (l+1) (by omega) (by omega)
   unfold FO at ih ⊢
   by_cases a1:r.getD l 0<0
   ·rw[Cp a1,decide_eq_false (show ¬ 0≤r.getD l 0 by omega)];rfl
   ·rw[Ck a1,decide_eq_true (show 0≤r.getD l 0 by omega)]
    by_cases a2:r.getD l 0<(n:Int)
    ·rw[Cp a2,decide_eq_false (show ¬ r.getD l 0≥(n:Int) by omega)]
     by_cases a3:r.getD l 0=(i:Int)
     ·rw[decide_eq_false (show ¬ r.getD l 0≠(i:Int) by simpa using a3),beq_iff_eq.2 a3];rfl
     ·have hb:(r.getD l 0==(i:Int))=false:=by simpa using a3
      rw[decide_eq_true (show r.getD l 0≠(i:Int) from a3),hb]
      simp only[cond_true,cond_false,beq_self_eq_true,Bool.true_and]
      by_cases a4:l=0
      ·subst a4
       rw[Ck (by omega)]
       rw[Mw (by omega),ih]
       rfl
      ·have e2:wrap .i64 ((l:Int) - 1)=((l - 1:Nat):Int):=by rw[LW (by omega) (by omega)];omega
       rw[Cp (by omega)]
       simp only[beq_self_eq_true,cond_true]
       rw[e2,Bk (by omega),cond_true,Na (by omega),decide_eq_false a4,Bool.false_or]
       by_cases a5:r.getD (l - 1) 0<r.getD l 0
       ·rw[decide_eq_false (show ¬ r.getD (l - 1) 0≥r.getD l 0 by omega),decide_eq_true a5]
        simp only[cond_true,cond_false,Bool.true_and]
        rw[Mw (by omega),ih]
       ·rw[decide_eq_true (show r.getD (l - 1) 0≥r.getD l 0 by omega),decide_eq_false a5];rfl
    ·rw[Ck a2,decide_eq_true (show r.getD l 0≥(n:Int) by omega)];rfl
  ·have hle:l=r.length:=by omega
   rw[Ck (by omega),cond_false,hle,Nat.sub_self,R2,cond_true]
theorem p_ {N i:Nat} {g x:Int} {rows:List (List Int)} {d:LA} {e c:Bool} {k2:Int→Int→O R} {r0:Bool→O R} (hN:2000≤N) (hd:GR d rows) (hrl:∀ j,(Bq rows j).length≤1000)
  (hok:∀ j,j<rows.length→E8 0 (Bq rows j).length (FO rows.length j (Bq rows j))=true) (hi:i<rows.length) :
  ∀ (fuel q:Nat),q≤(Bq rows i).length→(Bq rows i).length - q<fuel→I0 N k2 r0 d rows.length e c g (Ae (Bq rows i)) (Bq rows i).length fuel (i:Int) x ((Bq rows i).length:Int) (q:Int)=cond (E8 q ((Bq rows i).length - q) (dq rows i)) (k2 g (wrap .i64 (x+1))) (r0 false)
 | 0,_,_,h=>by omega
 | fuel+1,q,hl,hf=>by
  have hr:=hrl i
  rw[I0,Vf]
  by_cases hlt:q<(Bq rows i).length
  ·rw[Cp (by omega),cond_true,Bk hlt,cond_true,Na hlt]
   have e1:(Bq rows i).length - q=((Bq rows i).length - (q+1))+1:=by omega
   rw[e1,Pn]
   have h1:=(Br.1 (hok i hi)) q (Nat.zero_le _) (by omega)
   simp only[FO,Bool.and_eq_true,decide_eq_true_eq] at h1
   obtain⟨h2,h3⟩:=gf h1.1 h1.2.1
   unfold dq
   rw[h2,Bk h3,cond_true,cV hd h3]
   refine rI hN (dr (hok _ h3)) (hrl _) (fun p=>?_)
   rw[Int.toNat_natCast]
   have ih:=p_ (N:=N) (x:=x) (g:=g) (e:=e) (c:=c) (k2:=k2) (r0:=r0) hN hd hrl hok hi fuel (q+1) (by omega) (by omega)
   unfold dq at ih
   rw[Mw (by omega),ih]
   cases decide ((i:Int) ∈ Bq rows ((Bq rows i).getD q 0).toNat)<;>rfl
  ·have hle:q=(Bq rows i).length:=by omega
   rw[Ck (by omega),cond_false,hle,Nat.sub_self,R2,cond_true]
theorem pa {N:Nat} {rows:List (List Int)} {d:LA} {e c:Bool} {r0:Bool→O R} (hN:2000≤N) (hd:GR d rows) (hn:rows.length≤1000) (hrl:∀ j,(Bq rows j).length≤1000)
  (hok:∀ j,j<rows.length→E8 0 (Bq rows j).length (FO rows.length j (Bq rows j))=true) :
  ∀ (fuel m:Nat),m≤rows.length→rows.length - m<fuel→Gs N r0 d rows.length e c fuel (rows.length:Int) (m:Int)=r0 (E8 m (rows.length - m) (fun i=>E8 0 (Bq rows i).length (dq rows i)))
 | 0,_,_,h=>by omega
 | fuel+1,m,hl,hf=>by
  rw[Gs,Vg]
  by_cases hlt:m<rows.length
  ·have e1:rows.length - m=(rows.length - (m+1))+1:=by omega
   have hr:=hrl m
   rw[Cp (by omega),cond_true,Bk hlt,cond_true,cV hd hlt]
   have:=p_ (N:=N) (i:=m) (g:=(rows.length:Int)) (x:=(m:Int)) (e:=e) (c:=c) (k2:=Gs N r0 d rows.length e c fuel) (r0:=r0) hN hd hrl hok hlt N 0 (Nat.zero_le _) (by omega)
   refine Eq.trans this ?_
   rw[Mw (by omega),pa hN hd hn hrl hok fuel (m+1) (by omega) (by omega),e1,Pn,Nat.sub_zero]
   cases E8 0 (Bq rows m).length (dq rows m)<;>rfl
  ·have hle:m=rows.length:=by omega
   rw[Ck (by omega),cond_false,hle,Nat.sub_self,R2]
theorem pb {N:Nat} {rows:List (List Int)} {d:LA} {e c:Bool} {r0:Bool→O R} (hN:2000≤N) (hd:GR d rows) (hn:rows.length≤1000) (hrl:∀ j,(Bq rows j).length≤1000) :
  ∀ (fuel m:Nat),m≤rows.length→rows.length - m<fuel→(∀ j,j<m→E8 0 (Bq rows j).length (FO rows.length j (Bq rows j))=true) →
   Gt N r0 d rows.length e c fuel (rows.length:Int) (m:Int)=r0 (E8 m (rows.length - m) (fun i=>E8 0 (Bq rows i).length (FO rows.length i (Bq rows i)))&&E8 0 rows.length (fun i=>E8 0 (Bq rows i).length (dq rows i)))
 | 0,_,_,h,_=>by omega
 | fuel+1,m,hl,hf,hj=>by
  rw[Gt,Vh]
  by_cases hlt:m<rows.length
  ·have e1:rows.length - m=(rows.length - (m+1))+1:=by omega
   have hr:=hrl m
   rw[Cp (by omega),cond_true,Bk hlt,cond_true,cV hd hlt]
   refine Eq.trans (p9 (hrl m) N 0 (Nat.zero_le _) (by omega)) ?_
   rw[Nat.sub_zero,e1,Pn]
   cases hb:E8 0 (Bq rows m).length (FO rows.length m (Bq rows m)) with
   | false=>rfl
   | true =>
    rw[cond_true,Mw (by omega),pb hN hd hn hrl fuel (m+1) (by omega) (by omega) (fun j h=>?_),Bool.true_and]
    by_cases hjm:j=m
    ·subst hjm;exact hb
    ·exact hj j (by omega)
  ·have hle:m=rows.length:=by omega
   subst hle
   rw[Ck (by omega),cond_false,Nat.sub_self,R2,Bool.true_and]
   exact pa hN hd hn hrl hj N 0 (Nat.zero_le _) (by omega)
theorem Q8 {N:Nat} {rows:List (List Int)} {d:LA} {e c:Bool} {r0:Bool→O R} (hN:2000≤N) (hd:GR d rows) (hn:rows.length≤1000) (hrl:∀ j,(Bq rows j).length≤1000) :
  Gu N d rows.length e c r0=r0 (vG rows):=by
 rw[IC,BO,Ck (by omega),cond_false]
 have:=pb (e:=e) (c:=c) (r0:=r0) hN hd hn hrl N 0 (Nat.zero_le _) (by omega) (fun j h=>by omega)
 rw[Nat.sub_zero] at this
 exact this
end
end Gx

namespace Gx
open Go
open IntKind (wrap)
section
variable {R:Type}
def Ny (rows:List (List Int)) (i j:Nat):Bool:=decide ((j:Int) ∈ Bq rows i)
theorem T1 {rows:List (List Int)} {i:Nat} (h:¬ i<rows.length):Bq rows i=[]:=by
 unfold Bq;rw[List.getD_eq_getElem?_getD,List.getElem?_eq_none (by omega)];rfl
theorem Y_ {l:List Int} {x:Int} (h:x ∈ l):∃ k:Nat,k<l.length∧l.getD k 0=x:=by
 obtain⟨k,hk⟩:=List.getElem?_of_mem h
 have hkl:=(List.getElem?_eq_some_iff.1 hk).1
 exact⟨k,hkl,by rw[getD_some hkl] at hk;injection hk⟩
theorem ku {rows:List (List Int)} (h:vG rows=true) {i:Nat}:E8 0 (Bq rows i).length (FO rows.length i (Bq rows i))=true:=by
 unfold vG at h
 rw[Bool.and_eq_true] at h
 by_cases hi:i<rows.length
 ·exact(Br.1 h.1) i (Nat.zero_le _) (by omega)
 ·rw[T1 hi];rfl
theorem du {rows:List (List Int)} (h:vG rows=true) {i:Nat} {x:Int} (hx:x ∈ Bq rows i):∃ j:Nat,x=(j:Int)∧j<rows.length∧j≠i∧i<rows.length:=by
 have hi:i<rows.length:=by
  by_cases hi:i<rows.length
  ·exact hi
  ·rw[T1 hi] at hx;cases hx
 obtain⟨k,hk,rfl⟩:=Y_ hx
 have:=(Br.1 (ku h (i:=i))) k (Nat.zero_le _) (by omega)
 simp only[FO,Bool.and_eq_true,decide_eq_true_eq] at this
 exact⟨((Bq rows i).getD k 0).toNat,by omega,by omega,by omega,hi⟩
theorem pJ {rows:List (List Int)} (h:vG rows=true) {i j:Nat} (hij:Ny rows i j=true):i<rows.length∧j<rows.length:=by
 unfold Ny at hij
 obtain⟨k,h1,h2,_,h4⟩:=du h (of_decide_eq_true hij)
 omega
theorem gh {rows:List (List Int)} (h:vG rows=true) {i j:Nat} (hij:Ny rows i j=true):Ny rows j i=true:=by
 have hl:=pJ h hij
 unfold Ny at hij ⊢
 obtain⟨k,hk,hke⟩:=Y_ (of_decide_eq_true hij)
 unfold vG at h
 rw[Bool.and_eq_true] at h
 have:=(Br.1 ((Br.1 h.2) i (Nat.zero_le _) (by omega))) k (Nat.zero_le _) (by omega)
 unfold dq at this
 rw[hke,Int.toNat_natCast] at this
 exact this
theorem nU {rows:List (List Int)} (h:vG rows=true):Gr (Ny rows):=by
 refine⟨fun i j=>?_,fun i=>?_⟩
 ·cases h1:Ny rows i j with
  | true=>exact(gh h h1).symm
  | false =>
   cases h2:Ny rows j i with
   | false=>rfl
   | true=>rw[gh h h2] at h1;cases h1
 ·cases h1:Ny rows i i with
  | false=>rfl
  | true =>
   obtain⟨k,h2,_,h4,_⟩:=du h (of_decide_eq_true h1)
   omega
theorem qY {rows:List (List Int)} (h:vG rows=true) (i:Nat):Bq rows i=Bb (Cx rows.length (Ny rows) i):=by
 have hp:=dr (ku h (i:=i))
 have hq:(Bb (Cx rows.length (Ny rows) i)).Pairwise (·<·):=by
  unfold Bb Cx
  rw[List.pairwise_map]
  exact(List.pairwise_lt_range.sublist List.filter_sublist).imp (fun h=>by omega)
 have hnd:∀ {l:List Int},l.Pairwise (·<·)→l.Nodup:=fun h=>h.imp (fun h=>by omega)
 have hperm:(Bq rows i).Perm (Bb (Cx rows.length (Ny rows) i)):=(List.perm_ext_iff_of_nodup (hnd hp) (hnd hq)).2 (fun x=>by
  unfold Bb
  rw[List.mem_map]
  constructor
  ·intro hx
   obtain⟨j,rfl,h2,h3,h4⟩:=du h hx
   exact⟨j,Ew.2 ⟨h2,decide_eq_true hx⟩,rfl⟩
  ·rintro⟨j,hj,rfl⟩
   exact of_decide_eq_true (Ew.1 hj).2)
 exact List.Perm.eq_of_pairwise (le:=fun a b:Int=>a<b) (fun a b _ _ h3 h4=>by omega) hp hq hperm
theorem dv {rows:List (List Int)} (h:vG rows=true):Sets rows.length (fun i j=>Ny rows i j=true) rows:=by
 refine⟨rfl,fun i l hl=>?_⟩
 have hi:=(List.getElem?_eq_some_iff.1 hl).1
 have e:l=Bq rows i:=by rw[YZ hi] at hl;injection hl with hl;exact hl.symm
 subst e
 refine⟨(dr (ku h (i:=i))).imp (fun h=>by omega),fun x=>?_⟩
 constructor
 ·intro hx
  obtain⟨j,rfl,h2,_,_⟩:=du h hx
  exact⟨j,rfl,h2,decide_eq_true hx⟩
 ·rintro⟨j,rfl,_,hj⟩;exact of_decide_eq_true hj
theorem qZ {rows:List (List Int)} (h:vG rows=true) (i:Nat):(Bq rows i).length≤rows.length:=by
 rw[qY h i,G4]
 unfold Cx;exact Nat.le_trans (List.length_filter_le _ _) (by simp)
theorem q7 (S T:List (List Int)):SA (S++T)=SA S++SA T:=by simp[SA]
theorem q8 {P:List (List Int)} {a:List Int} {t:LA} (K:LA→O R):fe ((SA (P++[a])++t).drop P.length) K=K (Ae a):=by
 unfold fe
 rw[List.head?_drop,List.getElem?_append_left (by simp[SA])]
 simp[SA,Sj,A6]
theorem q9 {P:List (List Int)} {a b:List Int} {t:LA}:(SA (P++[a])++t).set P.length (A6 (Ae b) 0 0)=SA (P++[b])++t:=by
 rw[List.set_append_left _ _ (by simp[SA])]
 congr 1
 rw[FN];congr 1
 rw[List.set_append_right _ _ (Nat.le_refl _)]
 simp
theorem nV {P:List (List Int)} {k:Nat}:(SA P++List.replicate (k+1) AV.nsl).set P.length (A6 [] 0 0)=SA (P++[[]])++List.replicate k AV.nsl:=by
 rw[List.set_append_right _ _ (by simp[SA]),q7]
 simp[SA,List.replicate_succ,Ae]
theorem nW {l:List Int} (h:l.Nodup) {k:Nat} (hk:k<l.length):mM (l.take k) (l.getD k 0)=l.take (k+1):=by
 unfold mM
 rw[C7 (getD_some hk),if_neg]
 intro hm
 obtain⟨j,hj⟩:=List.getElem?_of_mem hm
 rw[List.getElem?_take] at hj
 split at hj
 ·have h2:=getD_some hk
  obtain⟨h3,h4⟩:=List.getElem?_eq_some_iff.1 hj
  obtain⟨h5,h6⟩:=List.getElem?_eq_some_iff.1 h2
  have:=(List.getElem_inj h).1 (h4.trans h6.symm)
  omega
 ·cases hj
theorem pc {N n:Nat} {f:Int} {r:List Int} {P:List (List Int)} {t c:LA} {e d:Bool} {k0:Int→Int→LA→O R} {r0:LA→O R} (hr:r.length≤1000) (hnd:r.Nodup) (hP:P.length<n) (hn:n≤1000) :
  ∀ (fuel m:Nat),m≤r.length→r.length - m<fuel→F2 N k0 r0 n c e d f (Ae r) r.length fuel (P.length:Int) (P.length:Int) (r.length:Int) (m:Int) (SA (P++[r.take m])++t)=k0 f ((P.length+1:Nat):Int) (SA (P++[r])++t)
 | 0,_,_,h=>by omega
 | fuel+1,m,hm,hf=>by
  rw[F2,O5]
  by_cases hlt:m<r.length
  ·rw[Cp (by omega),cond_true,Bk hlt,cond_true,Na hlt,Bk hP,cond_true,Int.toNat_natCast,q8,YU,q9,nW hnd hlt,Mw (by omega)]
   exact pc hr hnd hP hn fuel (m+1) (by omega) (by omega)
  ·have:m=r.length:=by omega
   subst this
   rw[Ck (by omega),cond_false,List.take_length,Mw (by omega)]
theorem pd {N:Nat} {rows:List (List Int)} {c:LA} {e d:Bool} {r0:LA→O R} (hN:2000≤N) (hc:GR c rows) (hn:rows.length≤1000) (hrl:∀ j,(Bq rows j).length≤1000) (hnd:∀ j,(Bq rows j).Nodup) :
  ∀ (fuel g:Nat),g≤rows.length→rows.length - g<fuel→Dt N r0 rows.length c e d fuel (rows.length:Int) (g:Int) (SA (rows.take g)++List.replicate (rows.length - g) AV.nsl)=r0 (SA rows)
 | 0,_,_,h=>by omega
 | fuel+1,g,hg,hf=>by
  rw[Dt,O6]
  by_cases hlt:g<rows.length
  ·have hr:=hrl g
   have e1:rows.length - g=(rows.length - (g+1))+1:=by omega
   have e2:(rows.take g).length=g:=by simp;omega
   rw[Cp (by omega),cond_true,Bk hlt,cond_true,cV hc hlt,cond_true,Int.toNat_natCast,e1]
   have h1:=nV (P:=rows.take g) (k:=rows.length - (g+1))
   rw[e2] at h1
   rw[h1]
   have h2:=pc (N:=N) (f:=(rows.length:Int)) (P:=rows.take g) (t:=List.replicate (rows.length - (g+1)) AV.nsl) (c:=c) (e:=e) (d:=d) (k0:=Dt N r0 rows.length c e d fuel) (r0:=r0) (n:=rows.length) hr (hnd g) (by omega) hn N 0 (Nat.zero_le _) (by omega)
   rw[e2] at h2
   rw[List.take_zero] at h2
   refine Eq.trans h2 ?_
   rw[←C7 (YZ hlt)]
   exact pd hN hc hn hrl hnd fuel (g+1) (by omega) (by omega)
  ·have:g=rows.length:=by omega
   subst this
   rw[Ck (by omega),cond_false];simp
theorem FP {N:Nat} {rows:List (List Int)} {c:LA} {e d:Bool} {r0:LA→O R} (hN:2000≤N) (hc:GR c rows) (hn:rows.length≤1000) (hv:vG rows=true):Gv N c rows.length e d r0=r0 (SA rows):=by
 rw[Zh,Qw]
 have hb:(decide (0≤((rows.length:Nat):Int))&&(decide (((rows.length:Nat):Int)=((rows.length:Nat):Int))&&(decide (((rows.length:Nat):Int)≤140737488355328)&&decide (((rows.length:Nat):Int)*((8:Nat):Int)≤140737488355328))))=true:=by simp;omega
 rw[hb,cond_true]
 have:=pd (e:=e) (d:=d) (r0:=r0) hN hc hn (fun j=>Nat.le_trans (qZ hv j) hn) (fun j=>(dr (ku hv (i:=j))).imp (fun h=>by omega)) N 0 (Nat.zero_le _) (by omega)
 rw[List.take_zero,Nat.sub_zero] at this
 exact this
end
end Gx

namespace Gx
open Go
open IntKind (wrap)
section
variable {R:Type}
def om (n:Nat) (ord:List Int) (k:Nat):Bool:=decide (0≤ord.getD k 0)&&(decide (ord.getD k 0<(n:Int))&&!decide (ord.getD k 0 ∈ ord.take k))
def pG (n:Nat) (ord:List Int):Bool:=decide (ord.length=n)&&E8 0 ord.length (om n ord)
def nX (n:Nat) (ord:List Int) (P:List Int):Prop:=P.length=n∧∀ k:Nat,k<ord.length→P.getD (ord.getD k 0).toNat 0=(k:Int)
theorem Z5 {P:List Int} {i j:Nat} {x:Int} (h:i<P.length):(P.set i x).getD j 0=if j=i then x else P.getD j 0:=by
 rw[List.getD_eq_getElem?_getD,List.getD_eq_getElem?_getD]
 by_cases e:j=i
 ·subst e;rw[if_pos rfl,List.getElem?_set_self h];rfl
 ·rw[if_neg e,List.getElem?_set_ne (Ne.symm e)]
theorem gi {l:List Int} {k m:Nat} (h:k<l.length) (hk:k<m):l.getD k 0 ∈ l.take m :=
 List.mem_of_getElem? (i:=k) (by rw[List.getElem?_take_of_lt hk];exact getD_some h)
theorem nY {l:List Int} {m:Nat} {x:Int} (h:x ∈ l.take m):∃ k:Nat,k<m∧k<l.length∧l.getD k 0=x:=by
 obtain⟨k,hk⟩:=List.getElem?_of_mem h
 rw[List.getElem?_take] at hk
 split at hk
 ·rename_i hkm
  have hkl:=(List.getElem?_eq_some_iff.1 hk).1
  exact⟨k,hkm,hkl,by rw[getD_some hkl] at hk;injection hk⟩
 ·cases hk
theorem mN {L:Nat} {x:Nat} (h:x<L):(Nat.beq 1 1&&(Nat.ble (0+((x:Nat):Int).toNat*1+1) L&&!false))=true:=by
 rw[Int.toNat_natCast,Nat.zero_add,Nat.mul_one];simp;omega
theorem rJ {L:Nat} {x:Nat} (h:x<L):(Nat.beq 1 1&&(Nat.ble (0+((x:Nat):Int).toNat*1+1) L&&true))=true:=by
 rw[Int.toNat_natCast,Nat.zero_add,Nat.mul_one];simp;omega
theorem nZ {l:List Int} {k:Nat} {x:Int}:(Ae l).set (0+((k:Nat):Int).toNat*1) (.int .i64 x)=Ae (l.set k x):=by
 rw[Int.toNat_natCast,Nat.zero_add,Nat.mul_one,mK]
theorem pe {N n:Nat} {ord:List Int} {e f:Bool} {r0:Nat→Bool→LA→O R} {Y:O R} (hn:n≤1000) (hl:ord.length≤1000) :
  ∀ (fuel l:Nat) (P:List Int),l≤ord.length→ord.length - l<fuel→(E8 l (ord.length - l) (om n ord)=true→∀ P,nX n ord P→r0 n true (Ae P)=Y)→P.length=n→(∀ k:Nat,k<l→P.getD (ord.getD k 0).toNat 0=(k:Int)) →
   (∀ x:Nat,x<n→(x:Int) ∉ ord.take l→P.getD x 0=-1)→(∀ k:Nat,k<l→0≤ord.getD k 0) →
   Fv N r0 (n:Int) n (Ae ord) ord.length e f fuel (ord.length:Int) (l:Int) (Ae P)=cond (E8 l (ord.length - l) (om n ord)) Y (r0 0 false [])
 | 0,_,_,_,h,_,_,_,_,_=>by omega
 | fuel+1,l,P,hlo,hf,hK,hP,h1,h2,h3=>by
  rw[Fv,K1]
  by_cases hlt:l<ord.length
  ·have e1:ord.length - l=(ord.length - (l+1))+1:=by omega
   rw[Cp (by omega),cond_true,Bk hlt,cond_true,Na hlt,e1,Pn]
   unfold om
   by_cases a1:ord.getD l 0<0
   ·rw[Cp a1,decide_eq_false (show ¬ 0≤ord.getD l 0 by omega)];rfl
   ·rw[Ck a1,decide_eq_true (show 0≤ord.getD l 0 by omega)]
    by_cases a2:ord.getD l 0<(n:Int)
    ·rw[Cp a2,decide_eq_false (show ¬ ord.getD l 0≥(n:Int) by omega)]
     simp only[cond_true,cond_false,beq_self_eq_true,Bool.true_and]
     obtain⟨z,hz⟩:∃ z:Nat,ord.getD l 0=(z:Int):=⟨_,(gf (r:=ord) (k:=l) (by omega) a2).1⟩
     have hzz:(ord.getD l 0).toNat=z:=by omega
     have hzn:z<n:=by omega
     rw[hz,Bk hzn,cond_true,Z4 (by omega)]
     by_cases hin:(z:Int) ∈ ord.take l
     ·obtain⟨k,hk,hkl,hke⟩:=nY hin
      have:=h1 k hk
      rw[hke,Int.toNat_natCast] at this
      rw[this,decide_eq_true hin,decide_eq_true (show(k:Int)≥0 by omega)]
      rfl
     ·have hpk:om n ord l=true:=by
       unfold om
       rw[hz,decide_eq_true (show(0:Int)≤(z:Int) by omega),decide_eq_true (show(z:Int)<(n:Int) by omega),decide_eq_false hin];rfl
      rw[h2 z hzn hin,decide_eq_false hin,decide_eq_false (show ¬ (-1:Int)≥0 by omega)]
      simp only[cond_true,cond_false,Bool.not_false,Bool.true_and]
      rw[rJ (x:=z) (by rw[Cs];omega),cond_true,nZ,Mw (by omega)]
      refine pe hn hl fuel (l+1) (P.set z l) (by omega) (by omega) (fun h=>hK (by rw[e1,Pn,hpk,h];rfl)) (by simpa using hP) (fun k hk=>?_) (fun x hx hxm=>?_) (fun k hk=>?_)
      ·rw[Z5 (by omega)]
       by_cases hkl:k=l
       ·subst hkl;rw[hzz,if_pos rfl]
       ·have hkk:k<l:=by omega
        rw[if_neg,h1 k hkk]
        intro e
        have:=gi (l:=ord) (k:=k) (m:=l) (by omega) hkk
        have h0:=h3 k hkk
        have e2:ord.getD k 0=(z:Int):=by omega
        rw[e2] at this
        exact hin this
      ·rw[C7 (getD_some hlt),hz] at hxm
       simp only[List.mem_append,List.mem_singleton,not_or] at hxm
       rw[Z5 (by omega),if_neg (by omega)]
       exact h2 x hx hxm.1
      ·by_cases hkl:k=l
       ·subst hkl;omega
       ·exact h3 k (by omega)
    ·rw[Ck a2,decide_eq_true (show ord.getD l 0≥(n:Int) by omega)];rfl
  ·have:l=ord.length:=by omega
   subst this
   rw[Ck (by omega),cond_false,Nat.sub_self,R2,cond_true]
   exact hK (by rw[Nat.sub_self];rfl) P ⟨hP,h1⟩
theorem pf {N n:Nat} {ord:List Int} {e f:Bool} {r0:Nat→Bool→LA→O R} {Y:O R} (hN:2000≤N) (hn:n≤1000) (hl:ord.length≤1000) (hK:E8 0 ord.length (om n ord)=true→∀ P,nX n ord P→r0 n true (Ae P)=Y) :
  ∀ (fuel i:Nat) (P:List Int),i≤n→n - i<fuel→P.length=n→(∀ x:Nat,x<i→P.getD x 0=-1) →
   Ei N r0 (Ae ord) ord.length e f (n:Int) fuel n (n:Int) (i:Int) (Ae P)=cond (E8 0 ord.length (om n ord)) Y (r0 0 false [])
 | 0,_,_,_,h,_,_=>by omega
 | fuel+1,i,P,hi,hf,hP,h1=>by
  rw[Ei,K2]
  by_cases hlt:i<n
  ·rw[Cp (by omega),cond_true,Bk hlt,cond_true,mN (x:=i) (by rw[Cs];omega),cond_true,nZ,Mw (by omega)]
   refine pf hN hn hl hK fuel (i+1) _ (by omega) (by omega) (by simpa using hP) (fun x hx=>?_)
   rw[Z5 (by omega)]
   by_cases hxi:x=i
   ·rw[if_pos hxi]
   ·rw[if_neg hxi];exact h1 x (by omega)
  ·have:i=n:=by omega
   subst this
   rw[Ck (by omega),cond_false]
   have:=pe (N:=N) (e:=e) (f:=f) (r0:=r0) (Y:=Y) hn hl N 0 P (Nat.zero_le _) (by omega) (by rw[Nat.sub_zero];exact hK) hP (fun k h=>by omega) (fun x hx _=>h1 x hx) (fun k h=>by omega)
   rw[Nat.sub_zero] at this
   exact this
theorem q_ (n:Nat):List.replicate n (AV.int .i64 0)=Ae (List.replicate n 0):=by simp[Ae]
theorem IS {N n:Nat} {ord:List Int} {e f:Bool} {r0:Nat→Bool→LA→O R} {Y:O R} (hN:2000≤N) (hn:n≤1000) (hl:ord.length≤1000) (hK:pG n ord=true→∀ P,nX n ord P→r0 n true (Ae P)=Y) :
  Fl N (Ae ord) ord.length e f (n:Int) r0=cond (pG n ord) Y (r0 0 false []):=by
 rw[Tp,Lp]
 unfold pG at hK ⊢
 by_cases hne:ord.length=n
 ·have e1:(((ord.length:Nat):Int) != (n:Int))=false:=by simp[hne]
  rw[e1,cond_false,decide_eq_true hne,Bool.true_and]
  have hb:(decide (0≤((n:Nat):Int))&&(decide (((n:Nat):Int)≤((n:Nat):Int))&&(decide (((n:Nat):Int)≤140737488355328)&&decide (((n:Nat):Int)*((8:Nat):Int)≤140737488355328))))=true:=by simp;omega
  rw[hb,cond_true,Int.toNat_natCast,q_]
  exact pf hN hn hl (fun h=>hK (by rw[decide_eq_true hne,h];rfl)) N 0 (List.replicate n 0) (Nat.zero_le _) (by omega) (by simp) (fun k h=>by omega)
 ·have e1:(((ord.length:Nat):Int) != (n:Int))=true:=by simp;omega
  rw[e1,cond_true,decide_eq_false hne];rfl
end
end Gx

namespace Gx
open Go
open IntKind (wrap)
section
variable {R:Type}
def Nc (n:Nat) (f:Nat→Bool):LA:=(List.range n).map fun j=>AV.bool (f j)
def TB (n k:Nat) (A:Nat→Nat→Bool):LA:=(List.range n).map fun i=>if i<k then A6 (Nc n (A i)) n 1 else AV.nsl
def mO (A:Nat→Nat→Bool) (x y:Nat) (b:Bool):Nat→Nat→Bool:=fun i j=>if i=x∧j=y then b else A i j
theorem mP (n:Nat) (f:Nat→Bool):(Nc n f).length=n:=by simp[Nc]
theorem jq {n k:Nat} {A B:Nat→Nat→Bool} (h:∀ i j,i<k→i<n→j<n→A i j=B i j):TB n k A=TB n k B:=by
 unfold TB
 refine List.map_congr_left (fun i hi=>?_)
 have hi:=List.mem_range.1 hi
 by_cases hk:i<k
 ·rw[if_pos hk,if_pos hk];congr 1
  unfold Nc
  exact List.map_congr_left (fun j hj=>by rw[h i j hk hi (List.mem_range.1 hj)])
 ·rw[if_neg hk,if_neg hk]
theorem T2 {n k i:Nat} {A:Nat→Nat→Bool} (hk:i<k) (hi:i<n) (K:LA→Nat→O R):Ht 1 (TB n k A) i K=K (Nc n (A i)) n:=by
 unfold Ht
 rw[List.head?_drop]
 simp[TB,hi,hk,Je,A6]
theorem rK {n j:Nat} {f:Nat→Bool} (hj:j<n) (K:Bool→O R):NB ((Nc n f).drop (((j:Nat):Int).toNat*1)) K=K (f j):=by
 unfold NB
 rw[Int.toNat_natCast,Nat.mul_one,List.head?_drop]
 simp[Nc,hj,asBool]
theorem mQ {n j:Nat} {f:Nat→Bool} {b:Bool}:(Nc n f).set j (.bool b)=Nc n (fun x=>if x=j then b else f x):=by
 apply List.ext_getElem?
 intro i
 unfold Nc
 rw[List.getElem?_set]
 by_cases hi:i<n
 ·by_cases e:j=i
  ·subst e;simp[hi]
  ·simp[e,hi,Ne.symm e]
 ·by_cases e:j=i
  ·subst e;simp[hi]
  ·simp[e,hi]
theorem qc {n k i j:Nat} {A:Nat→Nat→Bool} {b:Bool} (hk:i<k) (hi:i<n):(TB n k A).set i (A6 ((Nc n (A i)).set (((j:Nat):Int).toNat*1) (.bool b)) n 1)=TB n k (mO A i j b):=by
 rw[Int.toNat_natCast,Nat.mul_one,mQ]
 apply List.ext_getElem?
 intro m
 unfold TB
 rw[List.getElem?_set]
 by_cases e:i=m
 ·subst e
  simp[hi,hk]
  congr 1
  unfold Nc
  exact List.map_congr_left (fun x _=>by unfold mO;simp)
 ·rw[if_neg e]
  by_cases hm:m<n
  ·simp[hm]
   split
   ·congr 1
    unfold Nc
    exact List.map_congr_left (fun x _=>by unfold mO;simp[Ne.symm e])
   ·rfl
  ·simp[hm]
theorem qd {n k:Nat} {A:Nat→Nat→Bool} (hk:k<n) (h:∀ j,A k j=false):(TB n k A).set k (A6 (List.take (n*1) (List.replicate n (AV.bool false))) n 1)=TB n (k+1) A:=by
 apply List.ext_getElem?
 intro m
 unfold TB
 rw[List.getElem?_set]
 by_cases e:k=m
 ·subst e
  simp[hk]
  congr 1
  apply List.ext_getElem?
  intro x
  unfold Nc
  by_cases hx:x<n<;>simp[hx,h]
 ·rw[if_neg e]
  by_cases hm:m<n
  ·simp[hm]
   by_cases h1:m<k
   ·rw[if_pos h1,if_pos (by omega)]
   ·rw[if_neg h1,if_neg (by omega)]
  ·simp[hm]
theorem ry (n:Nat) (A:Nat→Nat→Bool):List.replicate n AV.nsl=TB n 0 A:=by
 apply List.ext_getElem?
 intro m
 unfold TB
 by_cases hm:m<n<;>simp[hm]
theorem qe {n j:Nat} {f:Nat→Bool} (h:j<n):Nat.blt (((j:Nat):Int).toNat*1) (Nc n f).length=true:=by
 rw[mP,Int.toNat_natCast,Nat.mul_one];simp[Nat.blt];omega
end
end Gx

namespace Gx
open Go
open IntKind (wrap)
section
variable {R:Type}
theorem n6 (a:Nat) (A:Nat→Nat→Bool) (v:Nat):Cx (a+1) A v=Cx a A v++(if A v a then [a] else []):=by
 unfold Cx
 rw[List.range_succ,List.filter_append]
 congr 1
 cases h:A v a<;>simp[h]
theorem gj (A:Nat→Nat→Bool) (w:Nat):∀ (l pre:List Nat),Z3 A pre (l++[w])=Z3 A pre l+(pre++l).countP (fun x=>!A w x)
 | [],pre=>by simp[Z3]
 | x::l,pre=>by
  rw[List.cons_append,Z3,Z3,gj A w l (pre++[x])]
  simp;omega
def rm (A:Nat→Nat→Bool) (v a b:Nat):Nat:=if A v a then (Cx b A v).countP (fun x=>!A a x) else 0
theorem rL (A:Nat→Nat→Bool) (v a:Nat):Z3 A [] (Cx (a+1) A v)=Z3 A [] (Cx a A v)+rm A v a a:=by
 rw[n6]
 unfold rm
 cases h1:A v a with
 | true=>simp only[if_true];rw[gj];simp
 | false=>simp
theorem IT (n:Nat) (A:Nat→Nat→Bool) (v:Nat):(Cx n A v).length≤n:=by unfold Cx;exact Nat.le_trans (List.length_filter_le _ _) (by simp)
theorem qf (A:Nat→Nat→Bool) (v a b:Nat):rm A v a b≤b:=by
 unfold rm
 split
 ·exact Nat.le_trans List.countP_le_length (IT _ _ _)
 ·omega
theorem n7 (A:Nat→Nat→Bool) (v:Nat):∀ a:Nat,a≤1000→Z3 A [] (Cx a A v)≤1000*a
 | 0,_=>by simp[Cx,Z3]
 | a+1,h=>by
  rw[rL]
  have:=n7 A v a (by omega)
  have:=qf A v a a
  omega
theorem cW (A:Nat→Nat→Bool) (v i j:Nat):Kk A v i j=(!decide (i=v)&&!decide (j=v)&&(A i j||(!decide (i=j)&&(A v i&&A v j)))):=by
 unfold Kk
 have h:∀ x y:Nat,(x != y)=!decide (x=y):=fun x y=>by
  by_cases e:x=y
  ·subst e;simp
  ·rw[decide_eq_false e];simpa using e
 rw[h,h,h]
def jr (l:List Nat):AV:=if l=[] then AV.nsl else A6 (Ae (Bb l)) l.length 1
def HB (n:Nat) (L:Nat→List Nat):LA:=(List.range n).map fun i=>jr (L i)
theorem gk {n i:Nat} {L:Nat→List Nat} (hi:i<n) (K:LA→Nat→O R):Ht 1 (HB n L) i K=K (Ae (Bb (L i))) (L i).length:=by
 unfold Ht
 rw[List.head?_drop]
 unfold HB jr
 by_cases h:L i=[]<;>simp[hi,h,Je,A6,Ae,Bb]
theorem qg {n i g:Nat} {L:Nat→List Nat} (hi:i<n):((HB n L).set i .undef).set i (A6 (List.take (((L i).length+1)*1) ((Ae (Bb (L i))).take ((L i).length*1)++[AV.int .i64 (g:Int)])) ((L i).length+1) 1)=HB n (fun x=>if x=i then L i++[g] else L x):=by
 rw[List.set_set]
 apply List.ext_getElem?
 intro m
 unfold HB
 rw[List.getElem?_set]
 by_cases e:i=m
 ·subst e
  simp[hi]
  unfold jr
  rw[if_neg (by simp)]
  have h1:(Ae (Bb (L i))).length=(L i).length:=by rw[Cs,G4]
  rw[←h1,List.take_length,List.take_of_length_le (by simp)]
  simp[A6,Ae,Bb]
 ·rw[if_neg e]
  by_cases hm:m<n<;>simp[hm,Ne.symm e]
theorem Y' {n:Nat} {L M:Nat→List Nat} (h:∀ i,i<n→L i=M i):HB n L=HB n M:=by
 unfold HB
 exact List.map_congr_left (fun i hi=>by rw[h i (List.mem_range.1 hi)])
theorem rz (n:Nat):List.replicate n AV.nsl=HB n (fun _=>[]):=by
 apply List.ext_getElem?
 intro m
 unfold HB jr
 by_cases hm:m<n<;>simp[hm]
theorem qh (n:Nat) (L:Nat→List Nat):(HB n L).all TD=true:=by
 unfold HB
 rw[List.all_map,List.all_eq_true]
 intro x _
 simp only[Function.comp,jr]
 split<;>rfl
def Me (n:Nat) (A:Nat→Nat→Bool):List (List Int):=(List.range n).map fun i=>Bb (Cx n A i)
theorem T3 (n:Nat) (A:Nat→Nat→Bool):(Me n A).length=n:=by simp[Me]
theorem rM (n:Nat) (A:Nat→Nat→Bool):GR (HB n (Cx n A)) (Me n A):=by
 refine⟨by simp[HB,Me],fun i r hr=>?_⟩
 have hi:=(List.getElem?_eq_some_iff.1 hr).1
 rw[T3] at hi
 unfold Me at hr
 simp[hi] at hr
 subst hr
 refine⟨jr (Cx n A i),by simp[HB,hi],?_⟩
 unfold jr
 by_cases h:Cx n A i=[]<;>simp[h,Je,A6,Bb,Ae]
def iH (n:Nat) (A:Nat→Nat→Bool) (f g:Nat) (i:Nat):List Nat:=if i<f then Cx n A i else if i=f then Cx g A i else []
theorem pg {N n f:Nat} {A:Nat→Nat→Bool} {k0:Int→LA→O R} {r0:LA→O R} (hn:n≤1000) (hf:f<n) :
  ∀ (fuel g:Nat),g≤n→n - g<fuel→Cr N k0 r0 n (TB n n A) fuel (f:Int) (g:Int) (HB n (iH n A f g))=k0 ((f+1:Nat):Int) (HB n (iH n A f n))
 | 0,_,_,h=>by omega
 | fuel+1,g,hg,hfu=>by
  rw[Cr,Hq]
  by_cases hlt:g<n
  ·have ih:=pg (N:=N) (A:=A) (k0:=k0) (r0:=r0) hn hf fuel (g+1) (by omega) (by omega)
   rw[Cp (by omega),cond_true,Bk hf,cond_true]
   simp only[Int.toNat_natCast f]
   rw[T2 hf hf,Bk hlt,cond_true,T2 hf hf,rK hlt,Mw (by omega)]
   have hgl:iH n A f g f=Cx g A f:=by unfold iH;rw[if_neg (by omega),if_pos rfl]
   cases h:A f g with
   | true =>
    have hle:=IT g A f
    have hb:(Nat.ble ((Cx g A f).length+1) 140737488355328&&Nat.ble (((Cx g A f).length+1)*8) 140737488355328)=true:=by simp;omega
    have hb2:Nat.ble 1 ((Cx g A f).length+1)=true:=by simp
    have hset:=qg (n:=n) (g:=g) (L:=iH n A f g) hf
    rw[hgl] at hset
    rw[cond_true,cond_true,gk hf,gk hf,hgl,hb,cond_true,cond_true,hb2,cond_true,hset,←ih]
    congr 1
    refine Y' (fun i hi=>?_)
    by_cases e:i=f
    ·subst e
     rw[if_pos rfl];unfold iH;rw[if_neg (by omega),if_pos rfl,n6,h];rfl
    ·rw[if_neg e];unfold iH;simp[e]
   | false =>
    rw[cond_false,←ih]
    congr 1
    refine Y' (fun i hi=>?_)
    unfold iH
    by_cases e:i=f
    ·subst e
     rw[if_neg (by omega),if_pos rfl,if_neg (by omega),if_pos rfl,n6,h];simp
    ·simp[e]
  ·have:g=n:=by omega
   subst this
   rw[Ck (by omega),cond_false,Mw (by omega)]
theorem ph {N n:Nat} {A:Nat→Nat→Bool} {r0:LA→O R} (hN:2000≤N) (hn:n≤1000) :
  ∀ (fuel f:Nat),f≤n→n - f<fuel→B3 N r0 n (TB n n A) fuel (f:Int) (HB n (iH n A f 0))=r0 (HB n (Cx n A))
 | 0,_,_,h=>by omega
 | fuel+1,f,hf,hfu=>by
  rw[B3,Hr]
  by_cases hlt:f<n
  ·rw[Cp (by omega),cond_true]
   refine Eq.trans (pg hn hlt N 0 (Nat.zero_le _) (by omega)) ?_
   have:HB n (iH n A f n)=HB n (iH n A (f+1) 0):=Y' (fun i hi=>by
    unfold iH
    by_cases e:i=f
    ·subst e;rw[if_neg (by omega),if_pos rfl,if_pos (by omega)]
    ·by_cases h:i<f
     ·rw[if_pos h,if_pos (by omega)]
     ·rw[if_neg h,if_neg e,if_neg (by omega)];simp[Cx])
   rw[this]
   exact ph hN hn fuel (f+1) (by omega) (by omega)
  ·have:f=n:=by omega
   subst this
   rw[Ck (by omega),cond_false,qh]
   have:HB f (iH f A f 0)=HB f (Cx f A):=Y' (fun i hi=>by unfold iH;rw[if_pos hi])
   rw[this];rfl
theorem ZA {N n:Nat} {A:Nat→Nat→Bool} {r0:LA→O R} (hN:2000≤N) (hn:n≤1000):Ek N n (TB n n A) r0=r0 (HB n (Cx n A)):=by
 rw[M7,Hh]
 have hb:(decide (0≤((n:Nat):Int))&&(decide (((n:Nat):Int)=((n:Nat):Int))&&(decide (((n:Nat):Int)≤140737488355328)&&decide (((n:Nat):Int)*((24:Nat):Int)≤140737488355328))))=true:=by simp;omega
 rw[hb,cond_true,rz]
 have:=ph (A:=A) (r0:=r0) hN hn N 0 (Nat.zero_le _) (by omega)
 have e:HB n (fun _=>[])=HB n (iH n A 0 0):=Y' (fun i hi=>by unfold iH;simp[Cx])
 rw[e];exact this
end
end Gx

namespace Gx
open Go
open IntKind (wrap)
section
variable {R:Type}
def FQ (ord:List Int):List Nat:=ord.map Int.toNat
theorem n8 {n:Nat} {ord:List Int} (h:pG n ord=true):ord=Bb (FQ ord)∧(FQ ord).length=n∧(∀ x ∈ FQ ord,x<n)∧(FQ ord).Nodup:=by
 unfold pG at h
 rw[Bool.and_eq_true,Br] at h
 obtain⟨h1,h2⟩:=h
 have h1:=of_decide_eq_true h1
 have h3:∀ x ∈ ord,0≤x∧x<(n:Int):=by
  intro x hx
  obtain⟨k,hk,rfl⟩:=Y_ hx
  have:=h2 k (Nat.zero_le _) (by omega)
  simp only[om,Bool.and_eq_true,decide_eq_true_eq] at this
  exact⟨this.1,this.2.1⟩
 refine⟨?_,by simp[FQ,h1],?_,?_⟩
 ·unfold Bb FQ
  rw[List.map_map]
  conv=>lhs;rw[←List.map_id ord]
  exact List.map_congr_left (fun x hx=>by have:=h3 x hx;simp[Function.comp];omega)
 ·intro x hx
  unfold FQ at hx
  obtain⟨y,hy,rfl⟩:=List.mem_map.1 hx
  have:=h3 y hy;omega
 ·unfold FQ
  have hnd:ord.Nodup:=by
   unfold List.Nodup
   rw[List.pairwise_iff_getElem]
   intro i j hi hj hij e
   have:=h2 j (Nat.zero_le _) (by omega)
   simp only[om,Bool.and_eq_true,decide_eq_true_eq,Bool.not_eq_true',decide_eq_false_iff_not] at this
   refine this.2.2 ?_
   have h4:=gi (l:=ord) hi hij
   have ei:=getD_some hi
   have ej:=getD_some hj
   rw[List.getElem?_eq_getElem hi] at ei
   rw[List.getElem?_eq_getElem hj] at ej
   injection ei with ei
   injection ej with ej
   rw[←ej,←e,ei];exact h4
  unfold List.Nodup
  rw[List.pairwise_map]
  refine List.Pairwise.imp_of_mem (R:=(·≠·)) (fun {a b} ha hb hab=>?_) hnd
  have:=h3 a ha;have:=h3 b hb;omega
def gp (n:Nat) (A:Nat→Nat→Bool):List Nat→Nat
 | []=>0
 | v::r=>Z3 A [] (Cx n A v)+gp n (Kk A v) r
def ro (rows:List (List Int)) (ord:List Int):Int×Int :=
 if vG rows=true then (if pG rows.length ord=true then ((gp rows.length (Ny rows) (FQ ord):Nat),0) else (0,11)) else (0,1)
theorem n9:GR [] []:=⟨rfl,fun i r h=>by simp at h⟩
def GB (n:Nat) (k:Nat) (A:Nat→Nat→Bool):LA:=(List.range n).map fun i=>if i<k then A6 (Ae (Bb (Cx n A i))) (Cx n A i).length 1 else AV.nsl
theorem n_ (n k:Nat) (A:Nat→Nat→Bool):(GB n k A).length=n:=by simp[GB]
theorem sA (n:Nat) (A:Nat→Nat→Bool):List.replicate n AV.nsl=GB n 0 A:=by
 apply List.ext_getElem?
 intro m
 unfold GB
 by_cases hm:m<n<;>simp[hm]
theorem qi {n k:Nat} {A:Nat→Nat→Bool} (hk:k<n):(GB n k A).set (0+((k:Nat):Int).toNat*1) (.imm ((Ae (Bb (Cx n A k))).take ((Cx n A k).length*1)) (Cx n A k).length 1 false false)=GB n (k+1) A:=by
 rw[Int.toNat_natCast,Nat.zero_add,Nat.mul_one,Nat.mul_one,List.take_of_length_le (by rw[Cs,G4];exact Nat.le_refl _)]
 apply List.ext_getElem?
 intro m
 unfold GB
 rw[List.getElem?_set]
 by_cases e:k=m
 ·subst e;simp[hk,A6]
 ·rw[if_neg e]
  by_cases hm:m<n
  ·simp[hm]
   by_cases h1:m<k
   ·rw[if_pos h1,if_pos (by omega)]
   ·rw[if_neg h1,if_neg (by omega)]
  ·simp[hm]
theorem pi (n:Nat) (A:Nat→Nat→Bool):GR (GB n n A) (Me n A):=by
 refine⟨by simp[GB,Me],fun i r hr=>?_⟩
 have hi:=(List.getElem?_eq_some_iff.1 hr).1
 rw[T3] at hi
 unfold Me at hr
 simp[hi] at hr
 subst hr
 exact⟨A6 (Ae (Bb (Cx n A i))) (Cx n A i).length 1,by simp[GB,hi],by simp[Je,A6,G4]⟩
theorem dw {N n v:Nat} {A:Nat→Nat→Bool} {S:List (List Int)} {r0:Nat→LA→LA→O R} (hn:n≤1000) (hv:v<n) (hS:Sets n (fun i j=>A i j=true) S) :
  En N n (v:Int) (SA S) r0=r0 (Cx n A v).length (SA S) (Ae (Bb (Cx n A v))):=by
 rw[Co,Cq]
 obtain⟨l,hl⟩:=hS.get hv
 obtain⟨h1,h2⟩:=hS.sort hl
 have hlen:=IT n A v
 have hall:(Ae l).all IE=true:=by
  rw[List.all_eq_true]
  intro x hx
  unfold Ae at hx
  obtain⟨m,hm,rfl⟩:=List.mem_map.1 hx
  obtain⟨j,rfl,hj,_⟩:=((hS.2 v l hl).2 m).1 hm
  simp[IE];omega
 have hsl:Wv (Ae l)=Ae (Bb (Cx n A v)):=by unfold Wv;rw[Tm,h1]
 rw[Bk hv,cond_true]
 simp only[Int.toNat_natCast]
 rw[Pm hl,hall,Cs,h2,hsl]
 have hble:Nat.ble (Cx n A v).length 16777216=true:=by simp;omega
 rw[hble,Bool.and_self,cond_true]
theorem pj {N n:Nat} {A:Nat→Nat→Bool} {S:List (List Int)} {r0:LA→LA→O R} (hn:n≤1000) (hS:Sets n (fun i j=>A i j=true) S) :
  ∀ (fuel c:Nat),c≤n→n - c<fuel→Dw N r0 n fuel (n:Int) (c:Int) (SA S) (GB n c A)=r0 (SA S) (GB n n A)
 | 0,_,_,h=>by omega
 | fuel+1,c,hc,hf=>by
  rw[Dw,Jv]
  by_cases hlt:c<n
  ·rw[Cp (by omega),cond_true,dw hn hlt hS,Bk hlt,cond_true,mN (x:=c) (by rw[n_];exact hlt),cond_true,Mw (by omega),qi hlt]
   exact pj hn hS fuel (c+1) (by omega) (by omega)
  ·have:c=n:=by omega
   subst this
   rw[Ck (by omega),cond_false]
theorem bJ {N n:Nat} {A:Nat→Nat→Bool} {S:List (List Int)} {r0:LA→LA→O R} (hN:2000≤N) (hn:n≤1000) (hS:Sets n (fun i j=>A i j=true) S):F3 N n (SA S) r0=r0 (SA S) (GB n n A):=by
 rw[Qx,Jw]
 have hb:(decide (0≤((n:Nat):Int))&&(decide (((n:Nat):Int)≤((n:Nat):Int))&&(decide (((n:Nat):Int)≤140737488355328)&&decide (((n:Nat):Int)*((24:Nat):Int)≤140737488355328))))=true:=by simp;omega
 rw[hb,cond_true,sA n A]
 exact pj hn hS N 0 (Nat.zero_le _) (by omega)
theorem R3 {α:Type} {l:List α} {g:Nat} {x:α} (h:l[g]?=some x):l.drop g=x::l.drop (g+1):=by
 obtain⟨h1,h2⟩:=List.getElem?_eq_some_iff.1 h
 rw[List.drop_eq_getElem_cons h1,h2]
theorem I9 {o:List Nat} {g x:Nat} (h:o[g]?=some x):(Bb o).getD g 0=(x:Int):=by
 rw[List.getD_eq_getElem?_getD,YV h];rfl
theorem pK {n:Nat} (hn:n≤1000) (A:Nat→Nat→Bool) (v:Nat):Z3 A [] (Cx n A v)≤1000000:=by
 have:=n7 A v n hn
 omega
theorem pk {N n:Nat} {o:List Nat} {f e:Bool} {r0:Int→Int→O R} (hN:2000≤N) (hn:n≤1000) (hl:o.length≤1000) (ho:∀ x ∈ o,x<n) :
  ∀ (fuel g:Nat) (i:Nat) (A:Nat→Nat→Bool) (S:List (List Int)),g≤o.length→o.length - g<fuel→Gr A→Sets n (fun i j=>A i j=true) S→i≤1000000*g →
   K3 N r0 n (Ae (Bb o)) (Bb o).length f e fuel (i:Int) ((Bb o).length:Int) (g:Int) (SA S)=r0 ((i+gp n A (o.drop g):Nat):Int) 0
 | 0,_,_,_,_,_,h,_,_,_=>by omega
 | fuel+1,g,i,A,S,hg,hf,hA,hS,hi=>by
  have hlen:=G4 o
  rw[K3,Zo]
  by_cases hlt:g<o.length
  ·obtain⟨x,hx⟩:∃ x,o[g]?=some x:=⟨_,List.getElem?_eq_getElem hlt⟩
   have hxn:=ho x (List.mem_of_getElem? hx)
   have hc:=pK hn A x
   rw[Cp (by omega),cond_true,Bk (by omega),cond_true,Na (by omega),I9 hx]
   refine Vr hA hn hN hxn hS (fun S' hS'=>?_)
   rw[Mw (by omega),LW (by omega) (by omega)]
   have:=pk (f:=f) (e:=e) (r0:=r0) hN hn hl ho fuel (g+1) (i+Z3 A [] (Cx n A x)) (Kk A x) S' (by omega) (by omega) (YX hA x) hS' (by omega)
   rw[R3 hx,gp,←Nat.add_assoc]
   rw[←this]
   congr 1
  ·have:g=o.length:=by omega
   subst this
   rw[Ck (by omega),cond_false,List.drop_length];rfl
theorem js {N:Nat} {rows:List (List Int)} {ord:List Int} {d:LA} {q p f e:Bool} {r0:Int→Int→O R} (hN:2000≤N) (hd:GR d rows) (hn:rows.length≤1000) (hrl:∀ j,(Bq rows j).length≤1000) (hl:ord.length≤1000) :
  BQ N d rows.length q p (Ae ord) ord.length f e r0=r0 (ro rows ord).1 (ro rows ord).2:=by
 rw[PQ,IG,Q8 hN hd hn hrl]
 unfold ro
 cases hv:vG rows with
 | false=>rfl
 | true =>
  rw[Bool.not_true,cond_false]
  simp only[if_true]
  refine Eq.trans (IS (Y:=r0 (gp rows.length (Ny rows) (FQ ord):Nat) 0) hN hn hl (fun hp P _=>?_)) ?_
  ·rw[Bool.not_true,cond_false,FP hN hd hn hv]
   obtain⟨h1,h2,h3,h4⟩:=n8 hp
   have:=pk (N:=N) (f:=f) (e:=e) (r0:=r0) (n:=rows.length) (o:=FQ ord) hN hn (by omega) h3 N 0 0 (Ny rows) rows (Nat.zero_le _) (by omega) (nU hv) (dv hv) (Nat.zero_le _)
   rw[←h1,List.drop_zero,Nat.zero_add] at this
   exact this
  ·cases pG rows.length ord<;>rfl
end
end Gx

namespace Gx
open Go
open IntKind (wrap)
section
variable {R:Type}
theorem jt:∀ (n:Nat) (o:List Nat),o.Nodup→(∀ x ∈ o,x<n)→o.length≤n
 | 0,[],_,_=>Nat.le_refl _
 | 0,x::o,_,h=>absurd (h x List.mem_cons_self) (by omega)
 | n+1,o,hn,h=>by
  by_cases hm:n ∈ o
  ·have h1:=jt n (o.erase n) (hn.erase n) (fun x hx=>by
    have:=(hn.mem_erase_iff.1 hx)
    have:=h x this.2
    omega)
   rw[List.length_erase_of_mem hm] at h1
   omega
  ·have h1:=jt n o hn (fun x hx=>by
    have:=h x hx
    have:x≠n:=fun e=>hm (e▸hx)
    omega)
   omega
theorem sB {n:Nat} {o:List Nat} (hn:o.Nodup) (h:∀ x ∈ o,x<n) (hl:o.length=n) {y:Nat} (hy:y<n):y ∈ o:=by
 cases Decidable.em (y ∈ o) with
 | inl h=>exact h
 | inr hm =>
  have:=jt n (y::o) (List.nodup_cons.2 ⟨hm,hn⟩) (fun x hx=>by
   rcases List.mem_cons.1 hx with rfl | hx
   ·exact hy
   ·exact h x hx)
  simp at this;omega
def na (A:Nat→Nat→Bool) (v:Nat) (Ku:List Nat):Int:=match Ku.find? (A v) with | some w=>(w:Int) | none=>-1
def ZB (A:Nat→Nat→Bool):List Nat→List Int→List Int
 | [],P=>P
 | v::r,P=>ZB (Kk A v) r (P.set v (na A v r))
def rN (rows:List (List Int)) (ord:List Int):List Int×Int :=
 if vG rows=true then (if pG rows.length ord=true then (ZB (Ny rows) (FQ ord) (List.replicate rows.length 0),0) else ([],11)) else ([],1)
def gq (Q:List Int) (cur:Int) (w:Nat):Int:=if cur<0 then (w:Int) else if Q.getD w 0<Q.getD cur.toNat 0 then (w:Int) else cur
theorem nc {N n m:Nat} {Q P:List Int} {nb:List Nat} {d w:LA} {c:Nat} {f e:Bool} {i:Int} {t:Nat} {k0:Int→Int→LA→LA→O R} {r0:Nat→Int→LA→O R} (hn:n≤1000) (hQ:Q.length=n) (hP:P.length=n) (hm:m<n) (hnb:∀ x ∈ nb,x<n) (hl:nb.length≤1000) (ht:t≤1000) :
  ∀ (fuel r:Nat) (cur:Int),r≤nb.length→nb.length - r<fuel→cur<(n:Int) →
   Io N k0 r0 n n (m:Int) d c f e i nb.length (Ae Q) w (Ae (Bb nb)) fuel (t:Int) (nb.length:Int) (r:Int) (Ae (P.set m cur))=k0 i ((t+1:Nat):Int) w (Ae (P.set m ((nb.drop r).foldl (gq Q) cur)))
 | 0,_,_,_,h,_=>by omega
 | fuel+1,r,cur,hr,hf,hc=>by
  rw[Io,Zm]
  by_cases hlt:r<nb.length
  ·obtain⟨x,hx⟩:∃ x,nb[r]?=some x:=⟨_,List.getElem?_eq_getElem hlt⟩
   have hxn:=hnb x (List.mem_of_getElem? hx)
   have hPl:(P.set m cur).length=n:=by simpa using hP
   have hcur:(P.set m cur).getD m 0=cur:=by rw[Z5 (by omega),if_pos rfl]
   have hset:∀ y:Int,(P.set m cur).set m y=P.set m y:=fun y=>List.set_set ..
   have hnl:=G4 nb
   rw[Cp (by omega),cond_true,Bk hlt,cond_true,Z4 (by omega),I9 hx,Bk hm,cond_true,Z4 (by omega),hcur,R3 hx,List.foldl_cons]
   have put:(cond (Nat.beq 1 1&&(Nat.ble (0+(m:Int).toNat*1+1) (Ae (P.set m cur)).length&&!false)) (Io N k0 r0 n n (m:Int) d c f e i nb.length (Ae Q) w (Ae (Bb nb)) fuel (t:Int) (nb.length:Int) (wrap .i64 ((r:Int)+1)) ((Ae (P.set m cur)).set (0+(m:Int).toNat*1) (.int .i64 (x:Int)))) none)=k0 i ((t+1:Nat):Int) w (Ae (P.set m ((nb.drop (r+1)).foldl (gq Q) (x:Int)))):=by
    rw[mN (x:=m) (by rw[Cs,hPl];exact hm),cond_true,nZ,hset,Mw (by omega)]
    exact nc hn hQ hP hm hnb hl ht fuel (r+1) (x:Int) (by omega) (by omega) (by omega)
   by_cases h0:cur<0
   ·rw[Cp h0]
    have:gq Q cur x=(x:Int):=by unfold gq;rw[if_pos h0]
    rw[this]
    exact put
   ·rw[Ck h0]
    simp only[beq_self_eq_true,cond_true]
    obtain⟨y,rfl⟩:∃ y:Nat,cur=(y:Int):=⟨cur.toNat,by omega⟩
    have hy:y<n:=by omega
    rw[Bk hxn,cond_true,Z4 (by omega),Z4 (by omega),hcur,Bk hy,cond_true,Z4 (by omega)]
    by_cases h1:Q.getD x 0<Q.getD y 0
    ·rw[decide_eq_true h1]
     have:gq Q (y:Int) x=(x:Int):=by unfold gq;rw[if_neg h0,Int.toNat_natCast,if_pos h1]
     rw[this]
     exact put
    ·rw[decide_eq_false h1]
     have:gq Q (y:Int) x=(y:Int):=by unfold gq;rw[if_neg h0,Int.toNat_natCast,if_neg h1]
     rw[this]
     simp only[cond_false]
     rw[Mw (by omega)]
     exact nc hn hQ hP hm hnb hl ht fuel (r+1) (y:Int) (by omega) (by omega) (by omega)
  ·have:r=nb.length:=by omega
   subst this
   rw[Ck (by omega),cond_false,List.drop_length,Mw (by omega)];rfl
theorem dx {Q:List Int}:∀ (l:List Nat) (c:Nat),∃ b:Nat,l.foldl (gq Q) (c:Int)=(b:Int)∧(b=c∨b ∈ l)∧Q.getD b 0≤Q.getD c 0∧∀ x ∈ l,Q.getD b 0≤Q.getD x 0
 | [],c=>⟨c,rfl,.inl rfl,Int.le_refl _,fun x hx=>by cases hx⟩
 | w::l,c=>by
  rw[List.foldl_cons]
  by_cases h:Q.getD w 0<Q.getD c 0
  ·have:gq Q (c:Int) w=(w:Int):=by unfold gq;rw[if_neg (by omega),Int.toNat_natCast,if_pos h]
   rw[this]
   obtain⟨b,h1,h2,h3,h4⟩:=dx (Q:=Q) l w
   refine⟨b,h1,.inr ?_,by omega,fun x hx=>?_⟩
   ·rcases h2 with rfl | h2
    ·exact List.mem_cons_self
    ·exact List.mem_cons_of_mem _ h2
   ·rcases List.mem_cons.1 hx with rfl | hx
    ·exact h3
    ·exact h4 x hx
  ·have:gq Q (c:Int) w=(c:Int):=by unfold gq;rw[if_neg (by omega),Int.toNat_natCast,if_neg h]
   rw[this]
   obtain⟨b,h1,h2,h3,h4⟩:=dx (Q:=Q) l c
   refine⟨b,h1,?_,h3,fun x hx=>?_⟩
   ·rcases h2 with rfl | h2
    ·exact .inl rfl
    ·exact .inr (List.mem_cons_of_mem _ h2)
   ·rcases List.mem_cons.1 hx with rfl | hx
    ·omega
    ·exact h4 x hx
theorem nf {n v:Nat} {A:Nat→Nat→Bool} {Q:List Int} {Ku:List Nat} (hpos:Ku.Pairwise (fun a b=>Q.getD a 0<Q.getD b 0)) (hin:∀ x ∈ Cx n A v,x ∈ Ku) (hlt:∀ x ∈ Ku,x<n) :
  (Cx n A v).foldl (gq Q) (-1)=na A v Ku:=by
 unfold na
 cases hfind:Ku.find? (A v) with
 | none =>
  have hno:Cx n A v=[]:=by
   apply List.eq_nil_iff_forall_not_mem.2
   intro x hx
   have:=List.find?_eq_none.1 hfind x (hin x hx)
   exact this (Ew.1 hx).2
  rw[hno];rfl
 | some w =>
  obtain⟨hw,l1,l2,hr,has⟩:=List.find?_eq_some_iff_append.1 hfind
  have hwm:w ∈ Cx n A v:=Ew.2 ⟨hlt w (by rw[hr];simp),hw⟩
  cases hnb:Cx n A v with
  | nil=>rw[hnb] at hwm;cases hwm
  | cons c l =>
   rw[List.foldl_cons]
   have:gq Q (-1) c=(c:Int):=by unfold gq;rw[if_pos (by omega)]
   rw[this]
   obtain⟨b,h1,h2,h3,h4⟩:=dx (Q:=Q) l c
   rw[h1]
   have hbm:b ∈ Cx n A v:=by
    rw[hnb]
    rcases h2 with rfl | h2
    ·exact List.mem_cons_self
    ·exact List.mem_cons_of_mem _ h2
   have hbw:Q.getD b 0≤Q.getD w 0:=by
    rw[hnb] at hwm
    rcases List.mem_cons.1 hwm with rfl | h
    ·exact h3
    ·exact h4 w h
   have hbr:=hin b hbm
   rw[hr] at hbr hpos
   rcases List.mem_append.1 hbr with h | h
   ·have:=has b h
    rw[(Ew.1 hbm).2] at this;cases this
   ·rcases List.mem_cons.1 h with rfl | h
    ·rfl
    ·have h5:=(List.pairwise_cons.1 (List.pairwise_append.1 hpos).2.1).1 b h
     omega
theorem ju {A:Nat→Nat→Bool} (hA:Gr A) {x v y:Nat} (h:∀ y,A x y=false):Kk A v x y=false:=by
 rw[cW,h,hA.sym v x,h];simp
theorem jv (A:Nat→Nat→Bool) (v y:Nat):Kk A v v y=false:=by rw[cW];simp
theorem ZC {o:List Nat} {g v x:Nat} (hv:o[g]?=some v) (hx:x ∈ o.take (g+1)):x ∈ o.take g∨x=v:=by
 rw[C7 hv] at hx
 rcases List.mem_append.1 hx with h | h
 ·exact .inl h
 ·exact .inr (List.mem_singleton.1 h)
theorem pm {N n:Nat} {o:List Nat} {Q:List Int} {f e:Bool} {r0:Nat→Int→LA→O R} (hN:2000≤N) (hn:n≤1000) (ho:∀ x ∈ o,x<n) (hnd:o.Nodup) (hol:o.length=n) (hQ:nX n (Bb o) Q) :
  ∀ (fuel g:Nat) (A:Nat→Nat→Bool) (S:List (List Int)) (P:List Int),g≤n→n - g<fuel→Gr A→Sets n (fun i j=>A i j=true) S→P.length=n→(∀ x ∈ o.take g,∀ y,A x y=false) →
   Ip N r0 n n (Ae (Bb o)) (Bb o).length f e (Ae Q) fuel ((Bb o).length:Int) (g:Int) (SA S) (Ae P)=r0 n 0 (Ae (ZB A (o.drop g) P))
 | 0,_,_,_,_,_,h,_,_,_,_=>by omega
 | fuel+1,g,A,S,P,hg,hf,hA,hS,hP,hgone=>by
  have hlen:=G4 o
  rw[Ip,Zn]
  by_cases hlt:g<n
  ·obtain⟨v,hv⟩:∃ v,o[g]?=some v:=⟨_,List.getElem?_eq_getElem (by omega)⟩
   have hvn:=ho v (List.mem_of_getElem? hv)
   have hnl:=IT n A v
   rw[Cp (by omega),cond_true,Bk (by omega),cond_true,Na (by omega),I9 hv,Bk hvn,cond_true,mN (x:=v) (by rw[Cs,hP];exact hvn),cond_true,nZ]
   refine Vr hA hn hN hvn hS (fun S' hS'=>?_)
   refine Eq.trans (nc (t:=g) hn hQ.1 hP hvn (fun x hx=>(Ew.1 hx).1) (by omega) (by omega) N 0 (-1) (Nat.zero_le _) (by omega) (by omega)) ?_
   have hrest:(Cx n A v).foldl (gq Q) (-1)=na A v (o.drop (g+1)):=by
    refine nf ?_ (fun x hx=>?_) (fun x hx=>ho x (List.mem_of_mem_drop hx))
    ·rw[List.pairwise_iff_getElem]
     intro a b ha hb hab
     have ea:o[g+1+a]?=some ((o.drop (g+1))[a]):=by rw[←List.getElem?_drop,List.getElem?_eq_getElem ha]
     have eb:o[g+1+b]?=some ((o.drop (g+1))[b]):=by rw[←List.getElem?_drop,List.getElem?_eq_getElem hb]
     have la:=(List.getElem?_eq_some_iff.1 ea).1
     have lb:=(List.getElem?_eq_some_iff.1 eb).1
     have qa:=hQ.2 (g+1+a) (by omega)
     have qb:=hQ.2 (g+1+b) (by omega)
     rw[I9 ea,Int.toNat_natCast] at qa
     rw[I9 eb,Int.toNat_natCast] at qb
     omega
    ·obtain⟨hxn,hxv⟩:=Ew.1 hx
     have hxo:=sB hnd ho hol hxn
     rw[←List.take_append_drop (g+1) o] at hxo
     rcases List.mem_append.1 hxo with h | h
     ·rcases ZC hv h with h | rfl
      ·have:=hgone x h v
       rw[hA.sym] at this
       rw[this] at hxv;cases hxv
      ·rw[hA.irr] at hxv;cases hxv
     ·exact h
   rw[List.drop_zero,hrest]
   have:=pm (f:=f) (e:=e) (r0:=r0) hN hn ho hnd hol hQ fuel (g+1) (Kk A v) S' (P.set v (na A v (o.drop (g+1)))) (by omega) (by omega) (YX hA v) hS' (by simpa using hP) (fun x hx y=>by
    rcases ZC hv hx with h | rfl
    ·exact ju hA (hgone x h)
    ·exact jv A x y)
   rw[R3 hv,ZB]
   exact this
  ·have:g=n:=by omega
   subst this
   rw[Ck (by omega),cond_false,List.drop_of_length_le (by omega)];rfl
theorem ZD:∀ (o:List Nat) (A:Nat→Nat→Bool) (P:List Int),(ZB A o P).length=P.length
 | [],A,P=>rfl
 | v::r,A,P=>by rw[ZB,ZD];simp
theorem jw {N:Nat} {rows:List (List Int)} {ord:List Int} {d:LA} {q p f e:Bool} {r0:Nat→Int→LA→O R} (hN:2000≤N) (hd:GR d rows) (hn:rows.length≤1000) (hrl:∀ j,(Bq rows j).length≤1000) (hl:ord.length≤1000) :
  BP N d rows.length q p (Ae ord) ord.length f e r0=r0 (rN rows ord).1.length (rN rows ord).2 (Ae (rN rows ord).1):=by
 rw[PO,IF,Q8 hN hd hn hrl]
 unfold rN
 cases hv:vG rows with
 | false=>rfl
 | true =>
  rw[Bool.not_true,cond_false]
  simp only[if_true]
  refine Eq.trans (IS (Y:=r0 rows.length 0 (Ae (ZB (Ny rows) (FQ ord) (List.replicate rows.length 0)))) hN hn hl (fun hp P hP=>?_)) ?_
  ·have hb:(decide (0≤((rows.length:Nat):Int))&&(decide (((rows.length:Nat):Int)≤((rows.length:Nat):Int))&&(decide (((rows.length:Nat):Int)≤140737488355328)&&decide (((rows.length:Nat):Int)*((8:Nat):Int)≤140737488355328))))=true:=by simp;omega
   rw[Bool.not_true,cond_false,FP hN hd hn hv,hb,cond_true,q_]
   obtain⟨h1,h2,h3,h4⟩:=n8 hp
   have hP':nX rows.length (Bb (FQ ord)) P:=by rw[←h1];exact hP
   have:=pm (N:=N) (f:=f) (e:=e) (r0:=r0) (n:=rows.length) (o:=FQ ord) hN hn h3 h4 h2 hP' N 0 (Ny rows) rows (List.replicate rows.length 0) (Nat.zero_le _) (by omega) (nU hv) (dv hv) (by simp) (fun x hx=>by cases hx)
   rw[←h1,List.drop_zero] at this
   exact this
  ·cases hp:pG rows.length ord with
   | true=>simp only[cond_true,if_true];rw[ZD];simp
   | false=>rfl
end
end Gx

namespace Gx
open Go
open IntKind (wrap)
section
variable {R:Type}
def mR (n:Nat) (A:Nat→Nat→Bool) (x:Nat):Nat:=(Cx n A x).length
def oq (n:Nat) (A:Nat→Nat→Bool) (b x:Nat):Nat:=if mR n A x<mR n A b then x else b
def ot (n:Nat):Nat→(Nat→Nat→Bool)→List Nat→List Nat
 | 0,_,_=>[]
 | _+1,_,[]=>[]
 | k+1,A,w::l=>l.foldl (oq n A) w::ot n k (Kk A (l.foldl (oq n A) w)) ((w::l).erase (l.foldl (oq n A) w))
def rO (rows:List (List Int)):List Int×Int :=
 if vG rows=true then (Bb (ot rows.length rows.length (Ny rows) (List.range rows.length)),0) else ([],1)
theorem ng {N n:Nat} {A:Nat→Nat→Bool} {S:List (List Int)} {left ord:List Nat} {k1:Nat→Nat→LA→LA→LA→O R} {r0:Nat→Int→LA→O R} {Y:O R} (hN:2000≤N) (hA:Gr A) (hn:n≤1000) (hS:Sets n (fun i j=>A i j=true) S) (hl:∀ x ∈ left,x<n) (hll:left.length≤1000) (hol:ord.length≤1000) :
  ∀ (fuel f m:Nat) (c:Nat),left[f]?=some c→m≤left.length→left.length - m<fuel →
   (∀ f' S' b,left[f']?=some b→b=(left.drop m).foldl (oq n A) c→Sets n (fun i j=>Kk A b i j=true) S'→k1 (left.length - 1) (ord.length+1) (SA S') (Ae (Bb (left.eraseIdx f'))) (Ae (Bb (ord++[b])))=Y) →
   Ef N k1 r0 n fuel left.length ord.length (f:Int) left.length (left.length:Int) (m:Int) (SA S) (Ae (Bb left)) (Ae (Bb ord))=Y
 | 0,_,_,_,_,_,h,_=>by omega
 | fuel+1,f,m,c,hc,hm,hf,hK=>by
  have hlen:=G4 left
  have hfl:=(List.getElem?_eq_some_iff.1 hc).1
  have hcn:=hl c (List.mem_of_getElem? hc)
  rw[Ef,Ky]
  by_cases hlt:m<left.length
  ·obtain⟨x,hx⟩:∃ x,left[m]?=some x:=⟨_,List.getElem?_eq_getElem hlt⟩
   have hxn:=hl x (List.mem_of_getElem? hx)
   obtain⟨lx,hlx⟩:=hS.get hxn
   obtain⟨lc,hlc⟩:=hS.get hcn
   rw[Cp (by omega),cond_true,Bk hlt,cond_true,Z4 (by omega),I9 hx,Bk hxn,cond_true]
   simp only[Int.toNat_natCast x]
   rw[Pm hlx,Bk hfl,cond_true,Z4 (by omega),I9 hc,Bk hcn,cond_true]
   simp only[Int.toNat_natCast c]
   rw[Pm hlc,Cs,Cs,(hS.sort hlx).2,(hS.sort hlc).2,Mw (by omega)]
   rw[R3 hx] at hK
   by_cases h:mR n A x<mR n A c
   ·have e1:oq n A c x=x:=by unfold oq;rw[if_pos h]
    rw[decide_eq_true (show(((Cx n A x).length:Nat):Int)<(((Cx n A c).length:Nat):Int) by unfold mR at h;omega),cond_true]
    refine ng hN hA hn hS hl hll hol fuel m (m+1) x hx (by omega) (by omega) (fun f' S' b h1 h2 h3=>hK f' S' b h1 ?_ h3)
    rw[h2,List.foldl_cons,e1]
   ·have e1:oq n A c x=c:=by unfold oq;rw[if_neg h]
    rw[decide_eq_false (show ¬ (((Cx n A x).length:Nat):Int)<(((Cx n A c).length:Nat):Int) by unfold mR at h;omega),cond_false]
    refine ng hN hA hn hS hl hll hol fuel f (m+1) c hc (by omega) (by omega) (fun f' S' b h1 h2 h3=>hK f' S' b h1 ?_ h3)
    rw[h2,List.foldl_cons,e1]
  ·have:m=left.length:=by omega
   subst this
   rw[Ck (by omega),cond_false,Bk hfl,cond_true,Z4 (by omega),I9 hc,Mw (by omega),Dm,Di]
   have hall:((Ae (Bb left)).take left.length).all IE=true:=by
    rw[List.all_eq_true]
    intro y hy
    have hy:=List.mem_of_mem_take hy
    unfold Ae Bb at hy
    obtain⟨z,hz,rfl⟩:=List.mem_map.1 hy
    obtain⟨w,hw,rfl⟩:=List.mem_map.1 hz
    have:=hl w hw
    simp[IE];omega
   have hb:(decide ((0:Int)≤(f:Int))&&(decide ((f:Int)≤((f+1:Nat):Int))&&(decide (((f+1:Nat):Int)≤((left.length:Nat):Int))&&(Nat.ble 1 left.length&&(Nat.ble left.length 16777216&&((Ae (Bb left)).take left.length).all IE)))))=true:=by
    rw[hall];simp;omega
   rw[hb,cond_true]
   have e1:left.length - (((f+1:Nat):Int) - (f:Int)).toNat=left.length - 1:=by omega
   have e2:(Ae (Bb left)).take ((f:Nat):Int).toNat++((Ae (Bb left)).take left.length).drop (((f+1:Nat):Int)).toNat=Ae (Bb (left.eraseIdx f)):=by
    rw[Int.toNat_natCast,Int.toNat_natCast,List.take_of_length_le (i:=left.length) (by rw[Cs,hlen];exact Nat.le_refl _),List.eraseIdx_eq_take_drop_succ]
    simp[Ae,Bb]
   rw[e1,e2]
   refine Vr hA hn hN hcn hS (fun S' hS'=>?_)
   have hb2:(Nat.ble (ord.length+1) 140737488355328&&Nat.ble ((ord.length+1)*8) 140737488355328)=true:=by simp;omega
   have e3:(Ae (Bb ord)).take (ord.length*1)++[AV.int .i64 (c:Int)]=Ae (Bb (ord++[c])):=by
    rw[Nat.mul_one,List.take_of_length_le (by rw[Cs,G4];exact Nat.le_refl _)]
    simp[Ae,Bb]
   rw[hb2,cond_true,e3]
   exact hK f S' c hc (by rw[List.drop_length];rfl) hS'
theorem gr:∀ {l:List Nat} {f b:Nat},l.Nodup→l[f]?=some b→l.eraseIdx f=l.erase b
 | [],f,b,_,h=>by simp at h
 | x::l,0,b,_,h=>by simp at h;subst h;simp
 | x::l,f+1,b,hn,h=>by
  have h1:l[f]?=some b:=by simpa using h
  have hne:x≠b:=fun e=>(List.nodup_cons.1 hn).1 (e▸List.mem_of_getElem? h1)
  rw[List.eraseIdx_cons_succ,List.erase_cons_tail (by simpa using hne),gr (List.nodup_cons.1 hn).2 h1]
theorem pn {N n:Nat} {r0:Nat→Int→LA→O R} (hN:2000≤N) (hn:n≤1000) :
  ∀ (fuel:Nat) (left ord:List Nat) (A:Nat→Nat→Bool) (S:List (List Int)),left.length<fuel→Gr A→Sets n (fun i j=>A i j=true) S→(∀ x ∈ left,x<n)→left.Nodup→left.length+ord.length≤1000 →
   Eg N r0 n fuel left.length ord.length (SA S) (Ae (Bb left)) (Ae (Bb ord))=r0 (ord++ot n left.length A left).length 0 (Ae (Bb (ord++ot n left.length A left)))
 | 0,_,_,_,_,h,_,_,_,_,_=>by omega
 | fuel+1,left,ord,A,S,hf,hA,hS,hl,hnd,hol=>by
  rw[Eg,Kz]
  cases left with
  | nil =>
   rw[decide_eq_false (show ¬ ((([]:List Nat).length:Nat):Int)>0 by simp),cond_false]
   simp[ot]
  | cons w l =>
   rw[decide_eq_true (show(((w::l).length:Nat):Int)>0 by simp),cond_true]
   refine ng hN hA hn hS hl (by omega) (by omega) N 0 0 w rfl (Nat.zero_le _) (by omega) (fun f' S' b h1 h2 h3=>?_)
   rw[List.drop_zero,List.foldl_cons] at h2
   have e0:oq n A w w=w:=by unfold oq;split<;>rfl
   rw[e0] at h2
   obtain⟨h4,h5⟩:=List.getElem?_eq_some_iff.1 h1
   have e1:(w::l).eraseIdx f'=(w::l).erase b:=gr hnd h1
   have e2:((w::l).erase b).length=(w::l).length - 1:=List.length_erase_of_mem (List.mem_of_getElem? h1)
   have ih:=pn (r0:=r0) hN hn fuel ((w::l).erase b) (ord++[b]) (Kk A b) S' (by rw[e2];simp at hf ⊢;omega) (YX hA b) h3 (fun x hx=>hl x (List.mem_of_mem_erase hx)) (hnd.erase _) (by rw[e2];simp at hol ⊢;omega)
   rw[e1]
   rw[e2] at ih
   have e3:(ord++[b]).length=ord.length+1:=by simp
   rw[e3] at ih
   refine Eq.trans ih ?_
   have e4:(ord++[b])++ot n ((w::l).length - 1) (Kk A b) ((w::l).erase b)=ord++ot n (w::l).length A (w::l):=by
    rw[List.append_assoc,List.length_cons,Nat.add_sub_cancel,ot,←h2];rfl
   rw[e4]
theorem po {N n:Nat} {A:Nat→Nat→Bool} {S:List (List Int)} {c:LA} {e d:Bool} {r0:Nat→Int→LA→O R} (hN:2000≤N) (hn:n≤1000) (hA:Gr A) (hS:Sets n (fun i j=>A i j=true) S) :
  ∀ (fuel i:Nat) (v:List Int),i≤n→n - i<fuel→v.length=n→(∀ k:Nat,k<i→v.getD k 0=(k:Int)) →
   Eh N r0 c n e d (SA S) fuel (n:Int) (i:Int) (Ae v)=r0 (ot n n A (List.range n)).length 0 (Ae (Bb (ot n n A (List.range n))))
 | 0,_,_,_,h,_,_=>by omega
 | fuel+1,i,v,hi,hf,hv,hvk=>by
  rw[Eh,K0]
  by_cases hlt:i<n
  ·rw[Cp (by omega),cond_true,Bk hlt,cond_true,mN (x:=i) (by rw[Cs];omega),cond_true,nZ,Mw (by omega)]
   refine po hN hn hA hS fuel (i+1) _ (by omega) (by omega) (by simpa using hv) (fun k hk=>?_)
   rw[Z5 (by omega)]
   by_cases hki:k=i
   ·rw[if_pos hki,hki]
   ·rw[if_neg hki];exact hvk k (by omega)
  ·have:i=n:=by omega
   subst this
   have e1:v=Bb (List.range i):=by
    apply List.ext_getElem?
    intro k
    by_cases hk:k<i
    ·rw[getD_some (by omega),hvk k hk];simp[Bb,hk]
    ·rw[List.getElem?_eq_none (by omega),List.getElem?_eq_none (by simp[Bb];omega)]
   have hb:(decide ((0:Int)≤(0:Int))&&(decide (0≤((i:Nat):Int))&&(decide (((i:Nat):Int)≤140737488355328)&&decide (((i:Nat):Int)*((8:Nat):Int)≤140737488355328))))=true:=by simp;omega
   rw[Ck (by omega),cond_false,hb,cond_true,e1]
   have:=pn (r0:=r0) hN hn N (List.range i) [] A S (by simp;omega) hA hS (fun x hx=>List.mem_range.1 hx) List.nodup_range (by simp;omega)
   rw[List.nil_append,List.length_range] at this
   exact this
theorem RU {N:Nat} {rows:List (List Int)} {d:LA} {f e:Bool} {r0:Nat→Int→LA→O R} (hN:2000≤N) (hd:GR d rows) (hn:rows.length≤1000) (hrl:∀ j,(Bq rows j).length≤1000) :
  Hg N d rows.length f e r0=r0 (rO rows).1.length (rO rows).2 (Ae (rO rows).1):=by
 rw[Tn,Lo,Q8 hN hd hn hrl]
 unfold rO
 cases hv:vG rows with
 | false=>rfl
 | true =>
  have hb:(decide (0≤((rows.length:Nat):Int))&&(decide (((rows.length:Nat):Int)≤((rows.length:Nat):Int))&&(decide (((rows.length:Nat):Int)≤140737488355328)&&(decide (((rows.length:Nat):Int)*((8:Nat):Int)≤140737488355328)&&Nat.beq 1 1))))=true:=by simp;omega
  rw[Bool.not_true,cond_false,FP hN hd hn hv,hb,cond_true,q_]
  simp only[if_true]
  rw[G4]
  exact po hN hn (nU hv) (dv hv) N 0 _ (Nat.zero_le _) (by omega) (by simp) (fun k h=>by omega)
theorem sC {ord:List Nat} {g:Nat}:decide ((g:Int) ∈ Bb ord)=decide (g ∈ ord):=by
 have:(g:Int) ∈ Bb ord↔g ∈ ord:=by
  unfold Bb
  rw[List.mem_map]
  constructor
  ·rintro⟨x,hx,h⟩;have:x=g:=by omega
   exact this▸hx
  ·intro h;exact⟨g,h,rfl⟩
 by_cases h:g ∈ ord
 ·rw[decide_eq_true h,decide_eq_true (this.2 h)]
 ·rw[decide_eq_false h,decide_eq_false (fun h2=>h (this.1 h2))]
end
end Gx

namespace Gx
open Go
open IntKind (wrap)
section
variable {R:Type}
theorem pp {N:Nat} {l:List Int} {f g i k:Bool} {r0:Bool→O R} (hl:l.length≤1000) :
  ∀ (fuel m:Nat),m≤l.length→l.length - m<fuel→Ej N r0 (Ae l) l.length f g (Ae l) l.length i k fuel (m:Int)=r0 true
 | 0,_,_,h=>by omega
 | fuel+1,m,hm,hf=>by
  rw[Ej,K4]
  by_cases hlt:m<l.length
  ·rw[Cp (by omega),cond_true,Bk hlt,cond_true,Na hlt,cond_true,Na hlt]
   have:(l.getD m 0 != l.getD m 0)=false:=by simp
   rw[this,cond_false,Mw (by omega)]
   exact pp hl fuel (m+1) (by omega) (by omega)
  ·rw[Ck (by omega),cond_false]
theorem gt {N:Nat} {l:List Int} {f g i k:Bool} {r0:Bool→O R} (hN:2000≤N) (hl:l.length≤1000):Fm N (Ae l) l.length f g (Ae l) l.length i k r0=r0 true:=by
 rw[Tr,Lq]
 have:(((l.length:Nat):Int) != ((l.length:Nat):Int))=false:=by simp
 rw[this,cond_false]
 exact pp hl N 0 (Nat.zero_le _) (by omega)
theorem pq {N:Nat} {l:List Int} {f g i k:Bool} {r0:Bool→O R} (hl:l.length≤1000) :
  ∀ (fuel m:Nat),m≤l.length→l.length - m<fuel→I5 N r0 (Ae l) l.length f g (Ae l) l.length i k fuel (m:Int)=r0 true
 | 0,_,_,h=>by omega
 | fuel+1,m,hm,hf=>by
  rw[I5,Vl]
  by_cases hlt:m<l.length
  ·rw[Cp (by omega),cond_true,Bk hlt,cond_true,Na hlt,cond_true,Na hlt]
   have:(l.getD m 0 != l.getD m 0)=false:=by simp
   rw[this,cond_false,Mw (by omega)]
   exact pq hl fuel (m+1) (by omega) (by omega)
  ·rw[Ck (by omega),cond_false]
theorem pL {N:Nat} {l:List Int} {f g i k:Bool} {r0:Bool→O R} (hN:2000≤N) (hl:l.length≤1000):Tx N (Ae l) l.length f g (Ae l) l.length i k r0=r0 true:=by
 rw[IH,BR]
 have:(((l.length:Nat):Int) != ((l.length:Nat):Int))=false:=by simp
 rw[this,cond_false]
 exact pq hl N 0 (Nat.zero_le _) (by omega)
theorem pt {N:Nat} {rows:List (List Int)} {c c':LA} {f g i k:Bool} {r0:Bool→O R} (hN:2000≤N) (hc:GR c rows) (hc':GR c' rows) (hn:rows.length≤1000) (hrl:∀ j,(Bq rows j).length≤1000) :
  ∀ (fuel m:Nat),m≤rows.length→rows.length - m<fuel→I6 N r0 c rows.length f g c' rows.length i k fuel (m:Int)=r0 true
 | 0,_,_,h=>by omega
 | fuel+1,m,hm,hf=>by
  rw[I6,Vm]
  by_cases hlt:m<rows.length
  ·rw[Cp (by omega),cond_true,Bk hlt,cond_true,cV hc hlt,cond_true,cV hc' hlt,pL hN (hrl m),Bool.not_true,cond_false,Mw (by omega)]
   exact pt hN hc hc' hn hrl fuel (m+1) (by omega) (by omega)
  ·rw[Ck (by omega),cond_false]
theorem kv {N:Nat} {rows:List (List Int)} {c c':LA} {f g i k:Bool} {r0:Bool→O R} (hN:2000≤N) (hc:GR c rows) (hc':GR c' rows) (hn:rows.length≤1000) (hrl:∀ j,(Bq rows j).length≤1000):L9 N c rows.length f g c' rows.length i k r0=r0 true:=by
 rw[IJ,BS]
 have:(((rows.length:Nat):Int) != ((rows.length:Nat):Int))=false:=by simp
 rw[this,cond_false]
 exact pt hN hc hc' hn hrl N 0 (Nat.zero_le _) (by omega)
theorem BV {n i:Nat} {A:Nat→Nat→Bool}:Bq (Me n A) i=if i<n then Bb (Cx n A i) else []:=by
 by_cases h:i<n
 ·rw[if_pos h];unfold Bq Me;rw[List.getD_eq_getElem?_getD];simp[h]
 ·rw[if_neg h];exact T1 (by rw[T3];exact h)
theorem kw {l:List Int}:(Ae l).take (l.length*1)=Ae l:=by
 rw[Nat.mul_one,List.take_of_length_le (by rw[Cs];exact Nat.le_refl _)]
theorem nh (v n:Int) (h1:1≤n) (h2:n≤4611686018427387904):(wrap .u64 n==0)=false∧0≤wrap .i64 (Int.tmod (wrap .u64 v) (wrap .u64 n))∧wrap .i64 (Int.tmod (wrap .u64 v) (wrap .u64 n))<n:=by
 have hn:wrap .u64 n=n:=by rw[IntKind.wrap_u64];omega
 have hv:0≤wrap .u64 v:=by rw[IntKind.wrap_u64];omega
 rw[hn]
 have h0:0≤Int.tmod (wrap .u64 v) n:=Int.tmod_nonneg _ hv
 have h3:Int.tmod (wrap .u64 v) n<n:=Int.tmod_lt_of_pos _ (by omega)
 rw[LW (by omega) (by omega)]
 exact⟨by simp;omega,h0,h3⟩
theorem BW {N:Nat} {l:List Int} {t o:Bool} (hl:l.length≤9223372036854775807) (n:Int) (h1:1≤n) (h2:n≤4611686018427387904) (k:Nat) (hk:k≤l.length) :
  ∃ (v k':Nat),(v:Int)<n∧k'≤l.length∧∀ K:Int→Int→O R,Cw N n (Ae l) l.length t o (k:Int) K=K (v:Int) (k':Int):=by
 by_cases h:k<l.length
 ·obtain⟨a1,a2,a3⟩:=nh (l.getD k 0) n h1 h2
  refine⟨(wrap .i64 (Int.tmod (wrap .u64 (l.getD k 0)) (wrap .u64 n))).toNat,k+1,by omega,by omega,fun K=>?_⟩
  rw[Kx];unfold Ln
  have w0:wrap .i64 ((k:Int)+1)=((k+1:Nat):Int):=by rw[LW (by omega) (by omega)];omega
  have w1:wrap .i64 (wrap .i64 ((k:Int)+1) - 1)=(k:Int):=by rw[w0,LW (by omega) (by omega)];omega
  rw[w1,w0,Bk h,cond_true,Na h,XT];unfold dm
  rw[a1,cond_false,decide_eq_false (show ¬ (k:Int)≥(l.length:Int) by omega),cond_false,Int.toNat_of_nonneg a2]
 ·refine⟨0,k,by omega,hk,fun K=>?_⟩
  rw[Kx];unfold Ln
  rw[decide_eq_true (show(k:Int)≥(l.length:Int) by omega),cond_true];rfl
theorem qk {N:Nat} {b:LA} {c:Nat} {d e:Bool} {r0:O R}:XQ N b c d e r0=r0:=by rw[XR];rfl
end
end Gx

namespace Gx
open Go
open IntKind (wrap)
section
variable {R:Type}
theorem rP {rows:List (List Int)} (h1:∀ i,(Bq rows i).Pairwise (·<·)) (h2:∀ i x,x ∈ Bq rows i→∃ j:Nat,x=(j:Int)∧j<rows.length∧j≠i) (h3:∀ i j:Nat,(j:Int) ∈ Bq rows i→(i:Int) ∈ Bq rows j):vG rows=true:=by
 unfold vG
 rw[Bool.and_eq_true,Br,Br]
 refine⟨fun i _ hi=>?_,fun i _ hi=>?_⟩
 ·rw[Br]
  intro k _ hk
  have hk:k<(Bq rows i).length:=by omega
  obtain⟨j,e1,e2,e3⟩:=h2 i _ (List.mem_of_getElem? (getD_some hk))
  unfold FO
  simp only[Bool.and_eq_true,Bool.or_eq_true,decide_eq_true_eq]
  refine⟨by omega,by omega,by omega,?_⟩
  by_cases h0:k=0
  ·exact .inl h0
  ·right
   have:=(List.pairwise_iff_getElem.1 (h1 i)) (k - 1) k (by omega) hk (by omega)
   have ea:=getD_some (show k - 1<(Bq rows i).length by omega)
   have ec:=getD_some hk
   rw[List.getElem?_eq_getElem (by omega)] at ea ec
   injection ea with ea
   injection ec with ec
   omega
 ·rw[Br]
  intro k _ hk
  have hk:k<(Bq rows i).length:=by omega
  have hm:=List.mem_of_getElem? (getD_some hk)
  obtain⟨j,e1,e2,e3⟩:=h2 i _ hm
  unfold dq
  rw[e1,Int.toNat_natCast,decide_eq_true_eq]
  rw[e1] at hm
  exact h3 i j hm
end
end Gx

namespace Gx
open Go
open IntKind (wrap)
section
variable {R:Type}
theorem ni {N:Nat} {r0:Bool→O R} (hN:2000≤N):L7 N r0=r0 true:=by
 rw[W8]
 unfold Vk
 have g1:GR [(.imm [(.int .i64 1)] 1 1 false false),(.imm [(.int .i64 0),(.int .i64 2)] 2 1 false false),(.imm [(.int .i64 1)] 1 1 false false)] [[1],[0,2],[1]]:=by
  refine⟨rfl,fun i r h=>?_⟩
  match i with
  | 0=>injection h with h;subst h;exact⟨_,rfl,rfl⟩
  | 1=>injection h with h;subst h;exact⟨_,rfl,rfl⟩
  | 2=>injection h with h;subst h;exact⟨_,rfl,rfl⟩
  | i+3=>simp at h
 have g2:GR [(.imm [(.int .i64 1),(.int .i64 2),(.int .i64 3)] 3 1 false false),(.imm [(.int .i64 0)] 1 1 false false),(.imm [(.int .i64 0)] 1 1 false false),(.imm [(.int .i64 0)] 1 1 false false)] [[1,2,3],[0],[0],[0]]:=by
  refine⟨rfl,fun i r h=>?_⟩
  match i with
  | 0=>injection h with h;subst h;exact⟨_,rfl,rfl⟩
  | 1=>injection h with h;subst h;exact⟨_,rfl,rfl⟩
  | 2=>injection h with h;subst h;exact⟨_,rfl,rfl⟩
  | 3=>injection h with h;subst h;exact⟨_,rfl,rfl⟩
  | i+4=>simp at h
 have l1:∀ j,(Bq [[1],[0,2],[1]] j).length≤1000:=fun j=>by
  match j with
  | 0=>decide
  | 1=>decide
  | 2=>decide
  | j+3=>rw[T1 (by simp)];simp
 have l2:∀ j,(Bq [[1,2,3],[0],[0],[0]] j).length≤1000:=fun j=>by
  match j with
  | 0=>decide
  | 1=>decide
  | 2=>decide
  | 3=>decide
  | j+4=>rw[T1 (by simp)];simp
 have m1:rO [[1],[0,2],[1]]=([0,1,2],0):=by decide
 have t1:rN [[1],[0,2],[1]] [0,1,2]=([1,2,-1],0):=by decide
 have f1:ro [[1,2,3],[0],[0],[0]] [0,1,2,3]=(3,0):=by decide
 refine Eq.trans (RU (rows:=[[1],[0,2],[1]]) hN g1 (by decide) l1) ?_
 rw[m1]
 have hh:(Ae [0,1,2]).take (([0,1,2]:List Int).length*1)=Ae [0,1,2]:=kw
 simp only[hh]
 refine Eq.trans (jw (rows:=[[1],[0,2],[1]]) (ord:=[0,1,2]) hN g1 (by decide) l1 (by decide)) ?_
 rw[t1]
 have hh2:(Ae [1,2,-1]).take (([1,2,-1]:List Int).length*1)=Ae [1,2,-1]:=kw
 simp only[hh2]
 refine Eq.trans (js (rows:=[[1,2,3],[0],[0],[0]]) (ord:=[0,1,2,3]) hN g2 (by decide) l2 (by decide)) ?_
 rw[f1]
 simp only[beq_self_eq_true,cond_true]
 refine Eq.trans (gt (l:=[0,1,2]) hN (by decide)) ?_
 simp only[beq_self_eq_true,cond_true]
 refine Eq.trans (gt (l:=[1,2,-1]) hN (by decide)) ?_
 simp only[beq_self_eq_true,cond_true]
end
end Gx
