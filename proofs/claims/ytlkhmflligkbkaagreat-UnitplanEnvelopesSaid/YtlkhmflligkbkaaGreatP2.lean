/- A part of the proof: what it holds is said by each theorem. -/
import Derived.Test.YtlkhmflligkbkaaGreatP1
set_option linter.unusedVariables false
namespace Gx
open Go Go.Proofs
open IntKind (wrap)
set_option maxRecDepth 100000
noncomputable section
variable {R:Type} (N:Nat)
def Ny (r0:Nat→Nat→LA→LA→O R) (f:Int) (a b:Nat) (l:LA) (k0:Nat→Int→Int→Int→Int→LA→LA→O R) (i:Nat) (e d m c:Int) (g o:LA):O R :=
 (cond (decide (c<m)) (cond ((decide (0≤(wrap .i64 ((wrap .i64 (d - 1)) - c))))&&((decide ((wrap .i64 ((wrap .i64 (d - 1)) - c))≤(wrap .i64 ((wrap .i64 ((wrap .i64 ((wrap .i64 (d - 1)) - c))+e))+1))))&&((decide ((wrap .i64 ((wrap .i64 ((wrap .i64 ((wrap .i64 (d - 1)) - c))+e))+1))≤((b:Nat):Int)))&&(decide (((b:Nat):Int)≤((b:Nat):Int)))))) (Lt N (0+(((wrap .i64 ((wrap .i64 (d - 1)) - c)).toNat)*1)) (((wrap .i64 ((wrap .i64 ((wrap .i64 ((wrap .i64 (d - 1)) - c))+e))+1)).toNat) - ((wrap .i64 ((wrap .i64 (d - 1)) - c)).toNat)) (l.take (a*1)) a false true o (fun x y=>(cond (Ad (wrap .i64 ((wrap .i64 (d - 1)) - c)) i) (cond ((Nat.beq 1 1)&&((Nat.ble ((0+(((wrap .i64 ((wrap .i64 (d - 1)) - c)).toNat)*1))+1) (g.length))&&(!false))) (k0 i e d m (wrap .i64 (c+1)) (g.set (0+(((wrap .i64 ((wrap .i64 (d - 1)) - c)).toNat)*1)) (.int .u32 x)) y) none) none))) none) (cond ((decide ((0:Int)≤(0:Int)))&&((decide (0≤e))&&((decide (e≤((b:Nat):Int)))&&(decide (((b:Nat):Int)≤((b:Nat):Int)))))) (Ne N (o.take ((e.toNat)*1)) (e.toNat) false true f (fun z ai aa=>(Wc N i g (fun ab=>(r0 ab z g aa))))) none))
def Ed (r0:Nat→Nat→LA→LA→O R) (f:Int) (a b:Nat) (l:LA):Nat→Nat→Int→Int→Int→Int→LA→LA→O R
 | 0,_,_,_,_,_,_,_=>none
 | n+1,i,e,d,m,c,g,o=>(Ny N r0 f a b l (Ed r0 f a b l n) i e d m c g o)
def Uj (r0:Nat→Nat→LA→LA→O R) (q0:Int→Nat→LA→Nat→Int→Int→Int→Int→LA→LA→O R) (q:LA) (r:Nat) (u s:Bool) (p:LA) (a:Nat) (v t:Bool):O R :=
 (cond (Ad (wrap .i64 (((a:Nat):Int) - 1)) a) (Ao .u32 (p.drop (((wrap .i64 (((a:Nat):Int) - 1)).toNat)*1)) fun ac=>(Bx N ac (fun f=>(Sj N p a false t f (fun w l=>(cond ((decide ((0:Int)≤(0:Int)))&&((decide (0≤((a:Nat):Int)))&&((decide (((a:Nat):Int)≤((w:Nat):Int)))&&(decide (((w:Nat):Int)≤((w:Nat):Int)))))) (Sj N q r false s f (fun b ad=>(cond ((decide (0≤(wrap .i64 (((b:Nat):Int) - ((a:Nat):Int)))))&&((decide ((wrap .i64 (((b:Nat):Int) - ((a:Nat):Int)))≤(wrap .i64 (((b:Nat):Int) - ((a:Nat):Int)))))&&((decide ((wrap .i64 (((b:Nat):Int) - ((a:Nat):Int)))≤140737488355328))&&(decide (((wrap .i64 (((b:Nat):Int) - ((a:Nat):Int)))*((4:Nat):Int))≤140737488355328))))) (q0 f b l ((wrap .i64 (((b:Nat):Int) - ((a:Nat):Int))).toNat) ((a:Nat):Int) (wrap .i64 (((b:Nat):Int) - ((a:Nat):Int))) (wrap .i64 (((b:Nat):Int) - ((a:Nat):Int))) 0 (List.replicate ((wrap .i64 (((b:Nat):Int) - ((a:Nat):Int))).toNat) (.int .u32 0)) ad) none))) none)))))) none)
def Jt:=(Ah (fun (N:Nat) (q:LA) (r:Nat) (u s:Bool) (p:LA) (a:Nat) (v t:Bool) (r0:Nat→Nat→LA→LA→O R)=>(Uj N r0 (fun f b l i e d m c g o=>(Ed N r0 f a b l N i e d m c g o)) q r u s p a v t))).1
theorem KC (q r u s p a v t r0):(@Jt R N q r u s p a v t r0)=(Uj N r0 (fun f b l i e d m c g o=>(Ed N r0 f a b l N i e d m c g o)) q r u s p a v t):=by rw[Jt,(Ah _).2]
def PK:Hints:={ H:=(hS hL (hS hL (hS hL (hS hL (hS hL (hS hL (hS hL (hS (hS hL (hS (hP [4,6,7,8,9,10,35,36] hL) hL)) hL)))))))),nils:=[(4,1),(5,1)],modes:=[(2,1),(2,1)] }
def XL:Ek:=[(200,G1 N),(202,ji N),(203,XJ N),(204,PJ N),(171,gJ N)]
def se (F:KF R):=Kk Tryz.f198 PK (XL N) [] N F
def Kr (F:KF R):Nat→Nat→LA→LA→O R:=(fun ae af ag ah=>F (.tup [(.own 300000 0 ae),(.own 300001 0 af)]) [(300000,(bQ 1 ag)),(300001,(bQ 1 ah))])
def sf (f:Int) (a b:Nat) (l:LA) (i:Nat) (e d m c:Int) (g o:LA):St:=⟨[(4,(.own 300000 0 i)),(6,(.int .i64 e)),(7,(.int .i64 f)),(8,(.own 300001 0 a)),(9,(.own 300002 0 b)),(10,(.int .i64 d)),(35,(.int .i64 m)),(36,(.int .i64 c))],[(300000,(bQ 1 g)),(300001,(bQ 1 l)),(300002,(bQ 1 o))]⟩
def sh (F:KF R):=se N F [1,1,1,1,1,1,1,0,1,0] []
theorem BF (F:KF R) (f:Int) (a b:Nat) (l:LA):∀ (n i:Nat) (e d m c:Int) (g o:LA),Ap (sh N F) n (sf f a b l i e d m c g o)=(Ed N (Kr F) f a b l n i e d m c g o)
 | 0,_,_,_,_,_,_,_=>by kernel_rfl
 | n+1,i,e,d,m,c,g,o=>Eq.trans (by kernel_rfl) (Bs (Ny N (Kr F) f a b l · i e d m c g o) (funext fun i=>funext fun e=>funext fun d=>funext fun m=>funext fun c=>funext fun g=>funext fun o=>(BF F f a b l n i e d m c g o)):_)
theorem PL (q:LA) (r:Nat) (u s:Bool) (p:LA) (a:Nat) (v t:Bool) (F:KF R):Cn (XL N) PK N 198 [(.imm q r 1 u s),(.imm p a 1 v t)] [] F=(Jt N q r u s p a v t (Kr F)):=by
 rw[KC]
 exact Eq.trans (by kernel_rfl) (Bs (Uj N (Kr F) · q r u s p a v t) (funext fun f=>funext fun b=>funext fun l=>funext fun i=>funext fun e=>funext fun d=>funext fun m=>funext fun c=>funext fun g=>funext fun o=>(Ak ..).trans (BF N F f a b l N i e d m c g o)):_)
def KD (args:List AV) (h:Am) (k:KF R):O R :=
 match args,h with
 | [(.imm q r 1 u s),(.imm p a 1 v t)],[]=>(Jt N q r u s p a v t (Kr k))
 | _,_=>none
theorem PM:Aq N 198 @KD:=by
 intro R Q args h k j;unfold KD;split
 exact A2 (PL ..) (PL ..) ⟨Nx N,Ajw N,yp N,sc N,sR N,trivial⟩
 exact A5
def PN:=A4 (PM N)
theorem si:A1 Tryz.prog 198 (PN N):=A6 (PM N) follows
def mO (r0:Nat→Nat→Bool→LA→LA→O R) (c:LA) (d:Nat) (e a:Bool) (f:LA) (g:Nat) (i b:Bool):O R :=
 (Ci N c d e a (fun n l=>(Ci N f g i b (fun o m=>(cond (((m:Nat):Int)==0) (r0 0 0 false [] []) (D3 N n l false a o m false b (fun r=>(cond (decide (r<0)) (Xj N n l false a (fun s t=>(r0 0 s true [] t))) (cond (decide (((l:Nat):Int)≤2)) (Rs N n l false a (fun q=>(Rs N o m false b (fun p=>(cond (p==0) none (Bw N (wrap .u64 (Int.tdiv q p)) (fun u v=>(cond (p==0) none (Bw N (Int.tmod q p) (fun w x=>(r0 u w true v x))))))))))) (cond (((m:Nat):Int)==1) (cond (Ad 0 m) (Ao .u32 o fun y=>(Gp N n l false a y (fun z aa ab ac=>(r0 z aa true ab ac)))) none) (Jt N n l false a o m false b (fun ad ae af ag=>(r0 ad ae true af ag)))))))))))))
def E6:=(Ah (fun (N:Nat) (c:LA) (d:Nat) (e a:Bool) (f:LA) (g:Nat) (i b:Bool) (r0:Nat→Nat→Bool→LA→LA→O R)=>(mO N r0 c d e a f g i b))).1
theorem jj (c d e a f g i b r0):(@E6 R N c d e a f g i b r0)=(mO N r0 c d e a f g i b):=by rw[E6,(Ah _).2]
def Aqd:Hints:={ H:=hL,nils:=[(4,1),(5,1)],modes:=[(2,1),(2,1),(0,0)] }
def Auv:Ek:=[(171,P0 N),(132,Hh N),(173,FQ N),(181,TJ N),(149,Fk N),(197,FZ N),(198,PN N)]
def pB (F:KF R):Nat→Nat→Bool→LA→LA→O R:=(fun ah ai aj ak al=>F (.tup [(.own 300000 0 ah),(.own 300001 0 ai),(.bool aj)]) [(300000,(bQ 1 ak)),(300001,(bQ 1 al))])
theorem pC (c:LA) (d:Nat) (e a:Bool) (f:LA) (g:Nat) (i b:Bool) (F:KF R):Cn (Auv N) Aqd N 175 [(.imm c d 1 e a),(.imm f g 1 i b)] [] F=(E6 N c d e a f g i b (pB F)):=by
 rw[jj]
 kernel_rfl
def jk (args:List AV) (h:Am) (k:KF R):O R :=
 match args,h with
 | [(.imm c d 1 e a),(.imm f g 1 i b)],[]=>(E6 N c d e a f g i b (pB k))
 | _,_=>none
theorem pD:Aq N 175 @jk:=by
 intro R Q args h k j;unfold jk;split
 exact A2 (pC ..) (pC ..) ⟨T9 N,Kn N,TQ N,lp N,Hg N,mM N,si N,trivial⟩
 exact A5
def TR:=A4 (pD N)
theorem pE:A1 Tryz.prog 175 (TR N):=A6 (pD N) follows
def GC (r0:Nat→Bool→LA→O R) (i:LA) (f:Nat) (c:Bool) (a:Nat) (l:LA) (d:Bool) (k0:Int→Int→Int→LA→O R) (g m b:Int) (e:LA):O R :=
 (cond (decide (b<m)) (cond (Ad b a) (Ao .u32 (l.drop ((b.toNat)*1)) fun u=>(cond (decide (b<((f:Nat):Int))) (cond (Ad b f) (Ao .u32 (i.drop ((b.toNat)*1)) fun v=>(cond (Ad b a) (cond ((Nat.beq 1 1)&&((Nat.ble ((0+((b.toNat)*1))+1) (e.length))&&(!false))) (k0 (Int.fdiv (wrap .u64 ((wrap .u64 ((wrap .u64 u) - g)) - (wrap .u64 v))) (2 ^ 63)) m (wrap .i64 (b+1)) (e.set (0+((b.toNat)*1)) (.int .u32 (wrap .u32 (wrap .u64 ((wrap .u64 ((wrap .u64 u) - g)) - (wrap .u64 v))))))) none) none)) none) (cond (Ad b a) (cond ((Nat.beq 1 1)&&((Nat.ble ((0+((b.toNat)*1))+1) (e.length))&&(!false))) (k0 (Int.fdiv (wrap .u64 ((wrap .u64 u) - g)) (2 ^ 63)) m (wrap .i64 (b+1)) (e.set (0+((b.toNat)*1)) (.int .u32 (wrap .u32 (wrap .u64 ((wrap .u64 u) - g)))))) none) none))) none) (Wc N a e (fun w=>(r0 w true e))))
def Tj (r0:Nat→Bool→LA→O R) (i:LA) (f:Nat) (c:Bool) (a:Nat) (l:LA) (d:Bool):Nat→Int→Int→Int→LA→O R
 | 0,_,_,_,_=>none
 | n+1,g,m,b,e=>(GC N r0 i f c a l d (Tj r0 i f c a l d n) g m b e)
def pF (r0:Nat→Bool→LA→O R) (q0:LA→Nat→Nat→LA→Int→Int→Int→LA→O R) (o:LA) (p:Nat) (q d:Bool) (r:LA) (s:Nat) (t c:Bool):O R :=
 (Ci N o p q d (fun l a=>(Ci N r s t c (fun i f=>(D3 N l a false d i f false c (fun x=>(cond (decide (x<0)) (r0 0 false []) (cond ((decide (0≤((a:Nat):Int)))&&((decide (((a:Nat):Int)≤((a:Nat):Int)))&&((decide (((a:Nat):Int)≤140737488355328))&&(decide ((((a:Nat):Int)*((4:Nat):Int))≤140737488355328))))) (q0 i f a l 0 ((a:Nat):Int) 0 (List.replicate a (.int .u32 0))) none))))))))
def TS:=(Ah (fun (N:Nat) (o:LA) (p:Nat) (q d:Bool) (r:LA) (s:Nat) (t c:Bool) (r0:Nat→Bool→LA→O R)=>(pF N r0 (fun i f a l g m b e=>(Tj N r0 i f c a l d N g m b e)) o p q d r s t c))).1
theorem mP (o p q d r s t c r0):(@TS R N o p q d r s t c r0)=(pF N r0 (fun i f a l g m b e=>(Tj N r0 i f c a l d N g m b e)) o p q d r s t c):=by rw[TS,(Ah _).2]
def Amd:Hints:={ H:=(hS hL (hS hL (hS hL (hS hL (hS hL (hS (hS hL (hS (hP [1,6,7,22,23,24] hL) hL)) hL)))))),nils:=[(4,1)],modes:=[(2,1),(0,0)] }
def Auw:Ek:=[(171,Ec N),(132,Hh N)]
def A37 (F:KF R):=Kk Tryz.f177 Amd (Auw N) [] N F
def PO (F:KF R):Nat→Bool→LA→O R:=(fun y z aa=>F (.tup [(.own 300000 0 y),(.bool z)]) [(300000,(bQ 1 aa))])
def A38 (i:LA) (f:Nat) (c:Bool) (a:Nat) (l:LA) (d:Bool) (g m b:Int) (e:LA):St:=⟨[(1,(.imm i f 1 false c)),(6,(.own 300000 0 a)),(7,(.int .u64 g)),(22,(.imm l a 1 false d)),(23,(.int .i64 m)),(24,(.int .i64 b))],[(300000,(bQ 1 e))]⟩
def A39 (F:KF R):=A37 N F [1,1,1,1,1,0,1,0] []
theorem pG (F:KF R) (i:LA) (f:Nat) (c:Bool) (a:Nat) (l:LA) (d:Bool):∀ (n:Nat) (g m b:Int) (e:LA),Ap (A39 N F) n (A38 i f c a l d g m b e)=(Tj N (PO F) i f c a l d n g m b e)
 | 0,_,_,_,_=>by kernel_rfl
 | n+1,g,m,b,e=>Eq.trans (by kernel_rfl) (Bs (GC N (PO F) i f c a l d · g m b e) (funext fun g=>funext fun m=>funext fun b=>funext fun e=>(pG F i f c a l d n g m b e)):_)
theorem Ame (o:LA) (p:Nat) (q d:Bool) (r:LA) (s:Nat) (t c:Bool) (F:KF R):Cn (Auw N) Amd N 177 [(.imm o p 1 q d),(.imm r s 1 t c)] [] F=(TS N o p q d r s t c (PO F)):=by
 rw[mP]
 exact Eq.trans (by kernel_rfl) (Bs (pF N (PO F) · o p q d r s t c) (funext fun i=>funext fun f=>funext fun a=>funext fun l=>funext fun g=>funext fun m=>funext fun b=>funext fun e=>(Ak ..).trans (pG N F i f c a l d N g m b e)):_)
def Adi (args:List AV) (h:Am) (k:KF R):O R :=
 match args,h with
 | [(.imm o p 1 q d),(.imm r s 1 t c)],[]=>(TS N o p q d r s t c (PO k))
 | _,_=>none
theorem Amf:Aq N 177 @Adi:=by
 intro R Q args h k j;unfold Adi;split
 exact A2 (Ame ..) (Ame ..) ⟨Gg N,Kn N,trivial⟩
 exact A5
def sj:=A4 (Amf N)
theorem Amg:A1 Tryz.prog 177 (sj N):=A6 (Amf N) follows
def dJ (r0:Nat→LA→O R) (a:LA) (b:Nat) (l c:Bool) (d:Int) (e:LA) (f:Nat) (m g:Bool) (i:Int):O R :=
 (Bw N d (fun n r=>(MV N a b false c (r.take (n*1)) n false true (fun o s=>(Bw N i (fun p t=>(MV N e f false g (t.take (p*1)) p false true (fun q u=>(TS N (s.take (o*1)) o false true (u.take (q*1)) q false true (fun v z w=>(r0 v w)))))))))))
def Fo:=(Ah (fun (N:Nat) (a:LA) (b:Nat) (l c:Bool) (d:Int) (e:LA) (f:Nat) (m g:Bool) (i:Int) (r0:Nat→LA→O R)=>(dJ N r0 a b l c d e f m g i))).1
theorem dK (a b l c d e f m g i r0):(@Fo R N a b l c d e f m g i r0)=(dJ N r0 a b l c d e f m g i):=by rw[Fo,(Ah _).2]
def Ajx:Hints:={ H:=hL,nils:=[(8,1)],modes:=[(2,1)] }
def Aqe:Ek:=[(149,Fk N),(135,OO N),(177,sj N)]
def jl (F:KF R):Nat→LA→O R:=(fun x y=>F (.own 300000 0 x) [(300000,(bQ 1 y))])
theorem jm (a:LA) (b:Nat) (l c:Bool) (d:Int) (e:LA) (f:Nat) (m g:Bool) (i:Int) (F:KF R):Cn (Aqe N) Ajx N 196 [(.imm a b 1 l c),(.int .u64 d),(.imm e f 1 m g),(.int .u64 i)] [] F=(Fo N a b l c d e f m g i (jl F)):=by
 rw[dK]
 kernel_rfl
def dL (args:List AV) (h:Am) (k:KF R):O R :=
 match args,h with
 | [(.imm a b 1 l c),(.int .u64 d),(.imm e f 1 m g),(.int .u64 i)],[]=>(Fo N a b l c d e f m g i (jl k))
 | _,_=>none
theorem jn:Aq N 196 @dL:=by
 intro R Q args h k j;unfold dL;split
 exact A2 (jm ..) (jm ..) ⟨Hg N,gN N,Amg N,trivial⟩
 exact A5
def jo:=A4 (jn N)
theorem Ajy:A1 Tryz.prog 196 (jo N):=A6 (jn N) follows
def TT (k1:LA→Nat→Bool→LA→Nat→Bool→O R) (r0:Nat→LA→O R) (k2:Int→Int→O R) (i g:Int):O R :=
 (cond (g != 0) (cond (g==0) none (k2 g (Int.tmod i g))) (Bw N i (fun ak al=>(r0 ak al))))
def Tk (k1:LA→Nat→Bool→LA→Nat→Bool→O R) (r0:Nat→LA→O R):Nat→Int→Int→O R
 | 0,_,_=>none
 | n+1,i,g=>(TT N k1 r0 (Tk k1 r0 n) i g)
def GD (r0:Nat→LA→O R) (k1:LA→Nat→Bool→LA→Nat→Bool→O R) (q2:Int→Int→O R) (c:LA) (a:Nat) (d:Bool) (e:LA) (b:Nat) (f:Bool):O R :=
 (cond (decide (((b:Nat):Int)>0)) (cond (decide (((a:Nat):Int)≤2)) (Rs N c a false d (fun am=>(Rs N e b false f (fun an=>(q2 am an))))) (Wl N c a false d e b false f (fun aa=>(cond ((Nat.beq (aa.length) 5)&&((Nat.ble 5 5)&&(!false))) (Ao .u64 ((setCells [(.int .u64 0),(.int .u64 0),(.int .u64 0),(.int .u64 0),(.bool false)] 0 aa).drop 2) fun ao=>(cond (ao==0) (E6 N c a false d e b false f (fun bk af bl bm ap=>(k1 e b f (ap.take (af*1)) af false))) (N_ ((setCells [(.int .u64 0),(.int .u64 0),(.int .u64 0),(.int .u64 0),(.bool false)] 0 aa).drop 4) fun aq=>(cond aq (Ao .u64 (setCells [(.int .u64 0),(.int .u64 0),(.int .u64 0),(.int .u64 0),(.bool false)] 0 aa) fun ar=>(Ao .u64 ((setCells [(.int .u64 0),(.int .u64 0),(.int .u64 0),(.int .u64 0),(.bool false)] 0 aa).drop 2) fun au=>(Fo N c a false d ar e b false f au (fun ag av=>(Ao .u64 ((setCells [(.int .u64 0),(.int .u64 0),(.int .u64 0),(.int .u64 0),(.bool false)] 0 aa).drop 3) fun aw=>(Ao .u64 ((setCells [(.int .u64 0),(.int .u64 0),(.int .u64 0),(.int .u64 0),(.bool false)] 0 aa).drop 1) fun ax=>(Fo N e b false f aw c a false d ax (fun ah ay=>(k1 (av.take (ag*1)) ag false (ay.take (ah*1)) ah false))))))))) (Ao .u64 ((setCells [(.int .u64 0),(.int .u64 0),(.int .u64 0),(.int .u64 0),(.bool false)] 0 aa).drop 2) fun az=>(Ao .u64 (setCells [(.int .u64 0),(.int .u64 0),(.int .u64 0),(.int .u64 0),(.bool false)] 0 aa) fun ba=>(Fo N e b false f az c a false d ba (fun ai bb=>(Ao .u64 ((setCells [(.int .u64 0),(.int .u64 0),(.int .u64 0),(.int .u64 0),(.bool false)] 0 aa).drop 1) fun bc=>(Ao .u64 ((setCells [(.int .u64 0),(.int .u64 0),(.int .u64 0),(.int .u64 0),(.bool false)] 0 aa).drop 3) fun bd=>(Fo N c a false d bc e b false f bd (fun aj be=>(k1 (bb.take (ai*1)) ai false (be.take (aj*1)) aj false))))))))))))) none)))) (Xj N c a false d (fun bf bg=>(r0 bf bg))))
def Fp (r0:Nat→LA→O R):Nat→LA→Nat→Bool→LA→Nat→Bool→O R
 | 0,_,_,_,_,_,_=>none
 | n+1,c,a,d,e,b,f=>(GD N r0 (Fp r0 n) (fun i g=>(Tk N (Fp r0 n) r0 N i g)) c a d e b f)
def mQ (N:Nat) (r0:Nat→LA→O R) (q1:LA→Nat→Bool→LA→Nat→Bool→O R) (l:LA) (m:Nat) (o:Bool) (p:LA) (q:Nat) (r:Bool):O R :=
 (q1 l m o p q r)
def gS (r0:Nat→LA→O R) (l:LA) (m:Nat) (o:Bool) (p:LA) (q:Nat) (r:Bool):O R:=(mQ N r0 (fun c a d e b f=>(Fp N r0 N c a d e b f)) l m o p q r)
def za (r0:Nat→LA→O R) (q0:LA→Nat→Bool→LA→Nat→Bool→O R) (u:LA) (v:Nat) (w s:Bool) (x:LA) (y:Nat) (z t:Bool):O R :=
 (Ci N u v w s (fun ab ac=>(Ci N x y z t (fun ad ae=>(D3 N ab ac false s ad ae false t (fun bh=>(cond (decide (bh<0)) (q0 ad ae t ab ac s) (q0 ab ac s ad ae t))))))))
def dM:=(Ah (fun (N:Nat) (u:LA) (v:Nat) (w s:Bool) (x:LA) (y:Nat) (z t:Bool) (r0:Nat→LA→O R)=>(za N r0 (fun l m o p q r=>(gS N r0 l m o p q r)) u v w s x y z t))).1
theorem Adj (u v w s x y z t r0):(@dM R N u v w s x y z t r0)=(za N r0 (fun l m o p q r=>(gS N r0 l m o p q r)) u v w s x y z t):=by rw[dM,(Ah _).2]
def Amh:Hints:={ H:=(hS hL (hS hL (hJ [0,1] hL (hS (hS (hP [0,1] (hS hL (hS (hS (hS hL (hS (hS hL (hS (hS (hP [5,6] hL) hL) hL)) hL)) hL) hL))) hL) hL)))),nils:=[(0,1000001),(1,1000001)],modes:=[(2,1)] }
def Aux:Ek:=[(171,P0 N),(132,Hh N),(181,TJ N),(195,je N),(175,TR N),(196,jo N),(173,FQ N),(149,Fk N)]
def sk (F:KF R):=Kk Tryz.f174 Amh (Aux N) [] N F
def Nf (F:KF R):Nat→LA→O R:=(fun bi bj=>F (.own 300000 0 bi) [(300000,(bQ 1 bj))])
def A4a (i g:Int):St:=⟨[(5,(.int .u64 i)),(6,(.int .u64 g))],[]⟩
def A4b (F:KF R) (Q1:St→O R):=sk N F [1,1,1,0,0,0,1,0,0,1,0,1,0,0] [Q1]
def sn (c:LA) (a:Nat) (d:Bool) (e:LA) (b:Nat) (f:Bool):St:=⟨[(0,(.imm c a 1 false d)),(1,(.imm e b 1 false f))],[]⟩
def Ami (F:KF R):=sk N F [1,1,1,0,0] []
def A4c (l:LA) (m:Nat) (o:Bool) (p:LA) (q:Nat) (r:Bool):St:=⟨[(0,(.imm l m 1 false o)),(1,(.imm p q 1 false r))],[]⟩
def A4d (F:KF R):=sk N F [1,1,1] []
theorem pH (Q1:St→O R) (F:KF R):∀ (n:Nat) (i g:Int),Ap (A4b N F Q1) n (A4a i g)=(Tk N (fun c a d e b f=>Q1 (sn c a d e b f)) (Nf F) n i g)
 | 0,_,_=>by kernel_rfl
 | n+1,i,g=>Eq.trans (by kernel_rfl) (Bs (TT N (fun c a d e b f=>Q1 (sn c a d e b f)) (Nf F) · i g) (funext fun i=>funext fun g=>(pH Q1 F n i g)):_)
theorem pI (F:KF R):∀ (n:Nat) (c:LA) (a:Nat) (d:Bool) (e:LA) (b:Nat) (f:Bool),Ap (Ami N F) n (sn c a d e b f)=(Fp N (Nf F) n c a d e b f)
 | 0,_,_,_,_,_,_=>by kernel_rfl
 | n+1,c,a,d,e,b,f=>have e0:=(funext fun c=>funext fun a=>funext fun d=>funext fun e=>funext fun b=>funext fun f=>(pI F n c a d e b f))
  Eq.trans (by kernel_rfl) (bJ (GD N (Nf F) · · c a d e b f) e0 (funext fun i=>funext fun g=>(Ak ..).trans ((pH N (Ap (Ami N F) n) F N i g).trans (Bs (Tk N · (Nf F) N i g) e0))):_)
theorem Aqf (F:KF R):∀ (l:LA) (m:Nat) (o:Bool) (p:LA) (q:Nat) (r:Bool),Bb (A4d N F) (A4c l m o p q r)=(gS N (Nf F) l m o p q r):=by
 intro l m o p q r
 exact Eq.trans (by kernel_rfl) (Bs (mQ N (Nf F) · l m o p q r) (funext fun c=>funext fun a=>funext fun d=>funext fun e=>funext fun b=>funext fun f=>(Ak ..).trans (pI N F N c a d e b f)):_)
theorem Amj (u:LA) (v:Nat) (w s:Bool) (x:LA) (y:Nat) (z t:Bool) (F:KF R):Cn (Aux N) Amh N 174 [(.imm u v 1 w s),(.imm x y 1 z t)] [] F=(dM N u v w s x y z t (Nf F)):=by
 rw[Adj]
 exact Eq.trans (by kernel_rfl) (Bs (za N (Nf F) · u v w s x y z t) (funext fun l=>funext fun m=>funext fun o=>funext fun p=>funext fun q=>funext fun r=>(As ..).trans (Aqf N F l m o p q r)):_)
def Adk (args:List AV) (h:Am) (k:KF R):O R :=
 match args,h with
 | [(.imm u v 1 w s),(.imm x y 1 z t)],[]=>(dM N u v w s x y z t (Nf k))
 | _,_=>none
theorem Amk:Aq N 174 @Adk:=by
 intro R Q args h k j;unfold Adk;split
 exact A2 (Amj ..) (Amj ..) ⟨T9 N,Kn N,lp N,Ajs N,pE N,Ajy N,TQ N,Hg N,trivial⟩
 exact A5
def Aml:=A4 (Amk N)
theorem A4e:A1 Tryz.prog 174 (Aml N):=A6 (Amk N) follows
def mR (r0:LA→O R) (a:LA) (b:Bool) (c:LA) (d:Nat) (f e:Bool):O R :=
 (N_ a fun u=>(Ct 1 (a.drop 1) fun v w=>(cond (Nat.beq (a.length) 2) (gR N [(.bool u),(.imm v w 1 false b)] (b||false) (fun p i n=>(Xj N c d false e (fun l o=>(cond (((i:Nat):Int)==0) (r0 [(.bool false),.nsl,(.imm [(.int .u32 1)] 1 1 false false)]) (dM N (n.take (i*1)) i false true (o.take (l*1)) l false true (fun g m=>(cond ((((g:Nat):Int) != 1)==false) (cond (Ad 0 g) (Ao .u32 m fun x=>(cond (cond false true (x != 1)) (E6 N (n.take (i*1)) i false true (m.take (g*1)) g false true (fun q ad ae y af=>(E6 N (o.take (l*1)) l false true (m.take (g*1)) g false true (fun r ag ah z ai=>(r0 [(.bool p),(.imm (y.take (q*1)) q 1 false false),(.imm (z.take (r*1)) r 1 false false)]))))) (r0 [(.bool p),(.imm (n.take (i*1)) i 1 false false),(.imm (o.take (l*1)) l 1 false false)]))) none) (E6 N (n.take (i*1)) i false true (m.take (g*1)) g false true (fun s aj ak aa al=>(E6 N (o.take (l*1)) l false true (m.take (g*1)) g false true (fun t am an ab ao=>(r0 [(.bool p),(.imm (aa.take (s*1)) s 1 false false),(.imm (ab.take (t*1)) t 1 false false)]))))))))))))) none)))
def Ng:=(Ah (fun (N:Nat) (a:LA) (b:Bool) (c:LA) (d:Nat) (f e:Bool) (r0:LA→O R)=>(mR N r0 a b c d f e))).1
theorem jq (a b c d f e r0):(@Ng R N a b c d f e r0)=(mR N r0 a b c d f e):=by rw[Ng,(Ah _).2]
def Aqg:Hints:={ H:=hL,modes:=[(3,0)],cob:=[2] }
def Auy:Ek:=[(172,Adh N),(173,FQ N),(174,Aml N),(175,TR N)]
def pJ (F:KF R):LA→O R:=(fun ac=>F (.pagg ac false) [])
theorem pK (a:LA) (b:Bool) (c:LA) (d:Nat) (f e:Bool) (F:KF R):Cn (Auy N) Aqg N 133 [(.pagg a b),(.imm c d 1 f e)] [] F=(Ng N a b c d f e (pJ F)):=by
 rw[jq]
 kernel_rfl
def jr (args:List AV) (h:Am) (k:KF R):O R :=
 match args,h with
 | [(.pagg a b),(.imm c d 1 f e)],[]=>(Ng N a b c d f e (pJ k))
 | _,_=>none
theorem pL:Aq N 133 @jr:=by
 intro R Q args h k j;unfold jr;split
 exact A2 (pK ..) (pK ..) ⟨Ay8 N,TQ N,A4e N,pE N,trivial⟩
 exact A5
def CS:=A4 (pL N)
theorem TU:A1 Tryz.prog 133 (CS N):=A6 (pL N) follows
def pM (r0:LA→O R) (a:LA) (b:Bool):O R :=
 (cond (Nat.ble 3 (a.length)) (Gy N (a.take 3) b (fun e f g=>(cond g (I6 N e f (fun c=>(cond ((Nat.beq 0 0)&&((Nat.beq (c.length) 3)&&(Nat.beq 3 3))) (cond (Nat.ble 3 (c.length)) (r0 (c.take 3)) none) none))) (cond (Nat.ble 3 (a.length)) (Kl N (a.take 3) b (fun i l m n o=>(Ng N i l m n false o (fun d=>(cond ((Nat.beq 0 0)&&((Nat.beq (d.length) 3)&&(Nat.beq 3 3))) (cond (Nat.ble 3 (d.length)) (r0 (d.take 3)) none) none))))) none)))) none)
def CT:=(Ah (fun (N:Nat) (a:LA) (b:Bool) (r0:LA→O R)=>(pM N r0 a b))).1
theorem dN (a b r0):(@CT R N a b r0)=(pM N r0 a b):=by rw[CT,(Ah _).2]
def Ay9:Hints:={ H:=hL,modes:=[(3,0)] }
def A4f:Ek:=[(99,Yo N),(131,Ug N),(101,Td N),(133,CS N)]
def Adl (F:KF R):LA→O R:=(fun p=>F (.pagg p false) [])
theorem Adm (a:LA) (b:Bool) (F:KF R):Cn (A4f N) Ay9 N 130 [(.pagg a b)] [] F=(CT N a b (Adl F)):=by
 rw[dN]
 kernel_rfl
def wG (args:List AV) (h:Am) (k:KF R):O R :=
 match args,h with
 | [(.pagg a b)],[]=>(CT N a b (Adl k))
 | _,_=>none
theorem Adn:Aq N 130 @wG:=by
 intro R Q args h k j;unfold wG;split
 exact A2 (Adm ..) (Adm ..) ⟨JP N,FP N,Yn N,TU N,trivial⟩
 exact A5
def mS:=A4 (Adn N)
theorem Ado:A1 Tryz.prog 130 (mS N):=A6 (Adn N) follows
def GE (r0:Nat→LA→O R) (b:LA) (a:Nat) (d:Bool) (e:LA) (c:Nat) (g:Bool) (k1:Nat→Int→Int→Int→LA→O R) (l:Nat) (m o f:Int) (i:LA):O R :=
 (cond (decide (f<o)) (cond (Ad f a) (Ao .u32 (b.drop ((f.toNat)*1)) fun x=>(cond (decide (f<((c:Nat):Int))) (cond (Ad f c) (Ao .u32 (e.drop ((f.toNat)*1)) fun aa=>(cond (Ad f l) (cond ((Nat.beq 1 1)&&((Nat.ble ((0+((f.toNat)*1))+1) (i.length))&&(!false))) (k1 l (Int.fdiv (wrap .u64 ((wrap .u64 (m+(wrap .u64 x)))+(wrap .u64 aa))) (2 ^ 32)) o (wrap .i64 (f+1)) (i.set (0+((f.toNat)*1)) (.int .u32 (wrap .u32 (wrap .u64 ((wrap .u64 (m+(wrap .u64 x)))+(wrap .u64 aa))))))) none) none)) none) (cond (Ad f l) (cond ((Nat.beq 1 1)&&((Nat.ble ((0+((f.toNat)*1))+1) (i.length))&&(!false))) (k1 l (Int.fdiv (wrap .u64 (m+(wrap .u64 x))) (2 ^ 32)) o (wrap .i64 (f+1)) (i.set (0+((f.toNat)*1)) (.int .u32 (wrap .u32 (wrap .u64 (m+(wrap .u64 x))))))) none) none))) none) (cond (Ad ((a:Nat):Int) l) (cond ((Nat.beq 1 1)&&((Nat.ble ((0+(a*1))+1) (i.length))&&(!false))) (Wc N l (i.set (0+(a*1)) (.int .u32 (wrap .u32 m))) (fun ad=>(r0 ad (i.set (0+(a*1)) (.int .u32 (wrap .u32 m)))))) none) none))
def Wp (r0:Nat→LA→O R) (b:LA) (a:Nat) (d:Bool) (e:LA) (c:Nat) (g:Bool):Nat→Nat→Int→Int→Int→LA→O R
 | 0,_,_,_,_,_=>none
 | n+1,l,m,o,f,i=>(GE N r0 b a d e c g (Wp r0 b a d e c g n) l m o f i)
def mT (N:Nat) (r0:Nat→LA→O R) (q1:Nat→Int→Int→Int→LA→O R) (b:LA) (a:Nat) (d:Bool) (e:LA) (c:Nat) (g:Bool):O R :=
 (cond ((decide (0≤(wrap .i64 (((a:Nat):Int)+1))))&&((decide ((wrap .i64 (((a:Nat):Int)+1))≤(wrap .i64 (((a:Nat):Int)+1))))&&((decide ((wrap .i64 (((a:Nat):Int)+1))≤140737488355328))&&(decide (((wrap .i64 (((a:Nat):Int)+1))*((4:Nat):Int))≤140737488355328))))) (q1 ((wrap .i64 (((a:Nat):Int)+1)).toNat) 0 ((a:Nat):Int) 0 (List.replicate ((wrap .i64 (((a:Nat):Int)+1)).toNat) (.int .u32 0))) none)
def PP (r0:Nat→LA→O R) (b:LA) (a:Nat) (d:Bool) (e:LA) (c:Nat) (g:Bool):O R:=(mT N r0 (fun l m o f i=>(Wp N r0 b a d e c g N l m o f i)) b a d e c g)
def pN (r0:Nat→LA→O R) (q0:LA→Nat→Bool→LA→Nat→Bool→O R) (r:LA) (s:Nat) (t p:Bool) (u:LA) (v:Nat) (w q:Bool):O R :=
 (Ci N r s t p (fun ab y=>(Ci N u v w q (fun ac z=>(cond (decide (((y:Nat):Int)<((z:Nat):Int))) (q0 ac z q ab y p) (q0 ab y p ac z q))))))
def sp:=(Ah (fun (N:Nat) (r:LA) (s:Nat) (t p:Bool) (u:LA) (v:Nat) (w q:Bool) (r0:Nat→LA→O R)=>(pN N r0 (fun b a d e c g=>(PP N r0 b a d e c g)) r s t p u v w q))).1
theorem mU (r s t p u v w q r0):(@sp R N r s t p u v w q r0)=(pN N r0 (fun b a d e c g=>(PP N r0 b a d e c g)) r s t p u v w q):=by rw[sp,(Ah _).2]
def Amm:Hints:={ H:=(hS hL (hS hL (hJ [0,1] hL (hS hL (hS hL (hS (hS hL (hS (hP [0,1,5,6,24,25,26] hL) hL)) hL)))))),nils:=[(4,1)],modes:=[(2,1)] }
def Auz:Ek:=[(171,Ec N)]
def Amn (F:KF R):=Kk Tryz.f176 Amm (Auz N) [] N F
def Wq (F:KF R):Nat→LA→O R:=(fun ae af=>F (.own 300000 0 ae) [(300000,(bQ 1 af))])
def A4g (b:LA) (a:Nat) (d:Bool) (e:LA) (c:Nat) (g:Bool) (l:Nat) (m o f:Int) (i:LA):St:=⟨[(0,(.imm b a 1 false d)),(1,(.imm e c 1 false g)),(5,(.own 300000 0 l)),(6,(.int .u64 m)),(24,(.imm b a 1 false d)),(25,(.int .i64 o)),(26,(.int .i64 f))],[(300000,(bQ 1 i))]⟩
def A4h (F:KF R):=Amn N F [1,1,1,1,1,0,1,0] []
def A4i (b:LA) (a:Nat) (d:Bool) (e:LA) (c:Nat) (g:Bool):St:=⟨[(0,(.imm b a 1 false d)),(1,(.imm e c 1 false g))],[]⟩
def A4j (F:KF R):=Amn N F [1,1,1] []
theorem pO (F:KF R) (b:LA) (a:Nat) (d:Bool) (e:LA) (c:Nat) (g:Bool):∀ (n l:Nat) (m o f:Int) (i:LA),Ap (A4h N F) n (A4g b a d e c g l m o f i)=(Wp N (Wq F) b a d e c g n l m o f i)
 | 0,_,_,_,_,_=>by kernel_rfl
 | n+1,l,m,o,f,i=>Eq.trans (by kernel_rfl) (Bs (GE N (Wq F) b a d e c g · l m o f i) (funext fun l=>funext fun m=>funext fun o=>funext fun f=>funext fun i=>(pO F b a d e c g n l m o f i)):_)
theorem Aqh (F:KF R):∀ (b:LA) (a:Nat) (d:Bool) (e:LA) (c:Nat) (g:Bool),Bb (A4j N F) (A4i b a d e c g)=(PP N (Wq F) b a d e c g):=by
 intro b a d e c g
 exact Eq.trans (by kernel_rfl) (Bs (mT N (Wq F) · b a d e c g) (funext fun l=>funext fun m=>funext fun o=>funext fun f=>funext fun i=>(Ak ..).trans (pO N F b a d e c g N l m o f i)):_)
theorem Amo (r:LA) (s:Nat) (t p:Bool) (u:LA) (v:Nat) (w q:Bool) (F:KF R):Cn (Auz N) Amm N 176 [(.imm r s 1 t p),(.imm u v 1 w q)] [] F=(sp N r s t p u v w q (Wq F)):=by
 rw[mU]
 exact Eq.trans (by kernel_rfl) (Bs (pN N (Wq F) · r s t p u v w q) (funext fun b=>funext fun a=>funext fun d=>funext fun e=>funext fun c=>funext fun g=>(As ..).trans (Aqh N F b a d e c g)):_)
def Adp (args:List AV) (h:Am) (k:KF R):O R :=
 match args,h with
 | [(.imm r s 1 t p),(.imm u v 1 w q)],[]=>(sp N r s t p u v w q (Wq k))
 | _,_=>none
theorem Amp:Aq N 176 @Adp:=by
 intro R Q args h k j;unfold Adp;split
 exact A2 (Amo ..) (Amo ..) ⟨Gg N,trivial⟩
 exact A5
def Amq:=A4 (Amp N)
theorem A4k:A1 Tryz.prog 176 (Amq N):=A6 (Amp N) follows
def pP (r0:Bool→Nat→LA→O R) (a:LA) (c:Bool) (b:LA) (d:Bool):O R :=
 (N_ a fun n=>(N_ b fun o=>(cond (n==o) (N_ a fun p=>(Ct 1 (a.drop 1) fun q r=>(Ct 1 (b.drop 1) fun s t=>(sp N q r false c s t false d (fun e f=>(Ir N p e f (fun u=>(r0 u e f)))))))) (Ct 1 (a.drop 1) fun v w=>(Ct 1 (b.drop 1) fun x y=>(TS N v w false c x y false d (fun g z i=>(cond z (N_ a fun aa=>(Ir N aa g i (fun ab=>(r0 ab g i)))) (Ct 1 (b.drop 1) fun ac ad=>(Ct 1 (a.drop 1) fun ae af=>(TS N ac ad false d ae af false c (fun l al m=>(N_ b fun ag=>(Ir N ag l m (fun ah=>(r0 ah l m))))))))))))))))
def mV:=(Ah (fun (N:Nat) (a:LA) (c:Bool) (b:LA) (d:Bool) (r0:Bool→Nat→LA→O R)=>(pP N r0 a c b d))).1
theorem TV (a c b d r0):(@mV R N a c b d r0)=(pP N r0 a c b d):=by rw[mV,(Ah _).2]
def A4l:Hints:={ H:=hL }
def A61:Ek:=[(176,Amq N),(148,T8 N),(177,sj N)]
def Amr (F:KF R):Bool→Nat→LA→O R:=(fun ai aj ak=>F (.agg [(.bool ai),(.own 300000 0 aj)]) [(300000,(bQ 1 ak))])
theorem Ams (a:LA) (c:Bool) (b:LA) (d:Bool) (F:KF R):Cn (A61 N) A4l N 134 [(.pagg a c),(.pagg b d)] [] F=(mV N a c b d (Amr F)):=by
 rw[TV]
 kernel_rfl
def Adq (args:List AV) (h:Am) (k:KF R):O R :=
 match args,h with
 | [(.pagg a c),(.pagg b d)],[]=>(mV N a c b d (Amr k))
 | _,_=>none
theorem Amt:Aq N 134 @Adq:=by
 intro R Q args h k j;unfold Adq;split
 exact A2 (Ams ..) (Ams ..) ⟨A4k N,CN N,Amg N,trivial⟩
 exact A5
def Amu:=A4 (Amt N)
theorem A4m:A1 Tryz.prog 134 (Amu N):=A6 (Amt N) follows
def PQ (r0:LA→O R) (c:Bool) (a:LA) (d:Bool) (b:LA):O R :=
 (cond (Nat.ble 3 (a.length)) (Kl N (a.take 3) c (fun m z p q n=>(cond ((Nat.beq 0 0)&&((Nat.beq (m.length) 2)&&(Nat.beq 2 2))) (cond (Nat.ble 3 (b.length)) (Kl N (b.take 3) d (fun o aa s t r=>(cond ((Nat.beq 0 0)&&((Nat.beq (o.length) 2)&&(Nat.beq 2 2))) (D3 N p q false n s t false r (fun ag=>(cond (ag==0) (cond (Nat.ble 2 (m.length)) (cond (Nat.ble 2 (o.length)) (mV N (m.take 2) z (o.take 2) aa (fun ah ab ai=>(Ng N [(.bool ah),(.imm (ai.take (ab*1)) ab 1 false true)] true p q false n (fun u=>(cond ((Nat.beq 0 0)&&((Nat.beq (u.length) 3)&&(Nat.beq 3 3))) (cond (Nat.ble 3 (u.length)) (r0 (u.take 3)) none) none))))) none) none) (cond (Nat.ble 2 (m.length)) (MW N (m.take 2) z [(.bool false),(.imm s t 1 false r)] (r||false) (fun aj ac ak=>(cond (Nat.ble 2 (o.length)) (MW N (o.take 2) aa [(.bool false),(.imm p q 1 false n)] (n||false) (fun al ad am=>(mV N [(.bool aj),(.imm (ak.take (ac*1)) ac 1 false true)] true [(.bool al),(.imm (am.take (ad*1)) ad 1 false true)] true (fun an ae ao=>(MV N p q false n s t false r (fun af ap=>(Ng N [(.bool an),(.imm (ao.take (ae*1)) ae 1 false true)] true (ap.take (af*1)) af false true (fun v=>(cond ((Nat.beq 0 0)&&((Nat.beq (v.length) 3)&&(Nat.beq 3 3))) (cond (Nat.ble 3 (v.length)) (r0 (v.take 3)) none) none))))))))) none))) none)))) none))) none) none))) none)
def TW (r0:LA→O R) (g e i f:Int) (c:Bool) (a:LA) (d:Bool) (b:LA) (q1:O R) (l:Bool):O R :=
 (cond l (I6 N (wrap .i64 ((wrap .i64 (g*f))+(wrap .i64 (i*e)))) (wrap .i64 (e*f)) (fun w=>(cond ((Nat.beq 0 0)&&((Nat.beq (w.length) 3)&&(Nat.beq 3 3))) (cond (Nat.ble 3 (w.length)) (r0 (w.take 3)) none) none))) q1)
def Tl (r0:LA→O R) (g e i f:Int) (c:Bool) (a:LA) (d:Bool) (b:LA) (l:Bool):O R:=(TW N r0 g e i f c a d b (PQ N r0 c a d b) l)
def gT (r0:LA→O R) (q0:Int→Int→Int→Int→Bool→O R) (a:LA) (c:Bool) (b:LA) (d:Bool):O R :=
 (cond (Nat.ble 3 (a.length)) (Xe N (a.take 3) c (fun aq=>(cond (aq==0) (cond (Nat.ble 3 (b.length)) (CT N (b.take 3) d (fun x=>(cond ((Nat.beq 0 0)&&((Nat.beq (x.length) 3)&&(Nat.beq 3 3))) (cond (Nat.ble 3 (x.length)) (r0 (x.take 3)) none) none))) none) (cond (Nat.ble 3 (b.length)) (Xe N (b.take 3) d (fun ar=>(cond (ar==0) (cond (Nat.ble 3 (a.length)) (CT N (a.take 3) c (fun y=>(cond ((Nat.beq 0 0)&&((Nat.beq (y.length) 3)&&(Nat.beq 3 3))) (cond (Nat.ble 3 (y.length)) (r0 (y.take 3)) none) none))) none) (cond (Nat.ble 3 (a.length)) (Gy N (a.take 3) c (fun g e au=>(cond (Nat.ble 3 (b.length)) (Gy N (b.take 3) d (fun i f av=>(cond (au==true) (q0 g e i f (cond true av false)) (q0 g e i f false)))) none))) none)))) none)))) none)
def TX:=(Ah (fun (N:Nat) (a:LA) (c:Bool) (b:LA) (d:Bool) (r0:LA→O R)=>(gT N r0 (fun g e i f l=>(Tl N r0 g e i f c a d b l)) a c b d))).1
theorem TY (a c b d r0):(@TX R N a c b d r0)=(gT N r0 (fun g e i f l=>(Tl N r0 g e i f c a d b l)) a c b d):=by rw[TX,(Ah _).2]
def Amv:Hints:={ H:=(hS hL (hS hL (hS hL (hS hL (hS hL (hJ [2,3,4] (hJ [2,3,4,5,6,8,9,41] hL hL) hL)))))),modes:=[(3,0)] }
def Au0:Ek:=[(95,TI N),(130,mS N),(99,Yo N),(131,Ug N),(101,Td N),(132,Hh N),(134,Amu N),(133,CS N),(103,gO N),(135,OO N)]
def Amw (F:KF R):=Kk Tryz.f81 Amv (Au0 N) [] N F
def DZ (F:KF R):LA→O R:=(fun aw=>F (.pagg aw false) [])
def A4n (c:Bool) (a:LA) (d:Bool) (b:LA):St:=⟨[(2,(.optr 300000 0)),(3,(.optr 300001 0)),(4,(.optr 300002 0))],[(300000,(bP c 0 a)),(300001,(bP d 0 b)),(300002,⟨false,false,false,false,0,[(.bool false),.nsl,.nsl],false⟩)]⟩
def A4o (F:KF R):=Amw N F [1,1,1,1,1,1] []
def A4p (g e i f:Int) (c:Bool) (a:LA) (d:Bool) (b:LA) (l:Bool):St:=⟨[(2,(.optr 300000 0)),(3,(.optr 300001 0)),(4,(.optr 300002 0)),(5,(.int .i64 g)),(6,(.int .i64 e)),(8,(.int .i64 i)),(9,(.int .i64 f)),(41,(.bool l))],[(300000,(bP c 0 a)),(300001,(bP d 0 b)),(300002,⟨false,false,false,false,0,[(.bool false),.nsl,.nsl],false⟩)]⟩
def A4q (F:KF R):=Amw N F [1,1,1,1,1,0,1] []
theorem Aqi (F:KF R) (c:Bool) (a:LA) (d:Bool) (b:LA):Bb (A4o N F) (A4n c a d b)=(PQ N (DZ F) c a d b):=by
 kernel_rfl
theorem Aqj (F:KF R) (g e i f:Int) (c:Bool) (a:LA) (d:Bool) (b:LA):∀ (l:Bool),Bb (A4q N F) (A4p g e i f c a d b l)=(Tl N (DZ F) g e i f c a d b l):=by
 intro l
 exact Eq.trans (by kernel_rfl) (Bs (TW N (DZ F) g e i f c a d b · l) ((As ..).trans (Aqi N F c a d b)):_)
theorem Amx (a:LA) (c:Bool) (b:LA) (d:Bool) (F:KF R):Cn (Au0 N) Amv N 81 [(.pagg a c),(.pagg b d)] [] F=(TX N a c b d (DZ F)):=by
 rw[TY]
 exact Eq.trans (by kernel_rfl) (Bs (gT N (DZ F) · a c b d) (funext fun g=>funext fun e=>funext fun i=>funext fun f=>funext fun l=>(As ..).trans (Aqj N F g e i f c a d b l)):_)
def Adr (args:List AV) (h:Am) (k:KF R):O R :=
 match args,h with
 | [(.pagg a c),(.pagg b d)],[]=>(TX N a c b d (DZ k))
 | _,_=>none
theorem Amy:Aq N 81 @Adr:=by
 intro R Q args h k j;unfold Adr;split
 exact A2 (Amx ..) (Amx ..) ⟨lk N,Ado N,JP N,FP N,Yn N,Kn N,A4m N,TU N,sX N,gN N,trivial⟩
 exact A5
def sq:=A4 (Amy N)
theorem Amz:A1 Tryz.prog 81 (sq N):=A6 (Amy N) follows
def Aqk (r0:LA→O R) (a:LA) (b:Bool) (c:LA) (d:Bool):O R :=
 (N_ a fun f=>(Ct 1 (a.drop 1) fun g i=>(Ct 1 (a.drop 2) fun l m=>(cond (Nat.beq (a.length) 3) (N_ c fun n=>(Ct 1 (c.drop 1) fun o p=>(Ct 1 (c.drop 2) fun q r=>(cond (Nat.beq (c.length) 3) (TX N [(.bool f),(.imm g i 1 false b),(.imm l m 1 false b)] (b||(b||false)) [(.bool (!n)),(.imm o p 1 false d),(.imm q r 1 false d)] (d||(d||false)) (fun e=>(cond ((Nat.beq 0 0)&&((Nat.beq (e.length) 3)&&(Nat.beq 3 3))) (cond (Nat.ble 3 (e.length)) (r0 (e.take 3)) none) none))) none)))) none))))
def TZ:=(Ah (fun (N:Nat) (a:LA) (b:Bool) (c:LA) (d:Bool) (r0:LA→O R)=>(Aqk N r0 a b c d))).1
theorem Ads (a b c d r0):(@TZ R N a b c d r0)=(Aqk N r0 a b c d):=by rw[TZ,(Ah _).2]
def A4r:Hints:={ H:=hL,modes:=[(3,0)],cob:=[2,3] }
def A62:Ek:=[(81,sq N)]
def Am0 (F:KF R):LA→O R:=(fun s=>F (.pagg s false) [])
theorem Am1 (a:LA) (b:Bool) (c:LA) (d:Bool) (F:KF R):Cn (A62 N) A4r N 83 [(.pagg a b),(.pagg c d)] [] F=(TZ N a b c d (Am0 F)):=by
 rw[Ads]
 kernel_rfl
def Adt (args:List AV) (h:Am) (k:KF R):O R :=
 match args,h with
 | [(.pagg a b),(.pagg c d)],[]=>(TZ N a b c d (Am0 k))
 | _,_=>none
theorem Am2:Aq N 83 @Adt:=by
 intro R Q args h k j;unfold Adt;split
 exact A2 (Am1 ..) (Am1 ..) ⟨Amz N,trivial⟩
 exact A5
def Am3:=A4 (Am2 N)
theorem A4s:A1 Tryz.prog 83 (Am3 N):=A6 (Am2 N) follows
def zb (r0:LA→O R) (a:LA) (c:Bool) (b:LA) (d:Bool):O R :=
 (cond (Nat.ble 3 (a.length)) (cond (Nat.ble 3 (b.length)) (Hu N (a.take 3) c (b.take 3) d (fun g=>(cond (decide (g≤0)) (cond (Nat.ble 3 (a.length)) (CT N (a.take 3) c (fun e=>(cond ((Nat.beq 0 0)&&((Nat.beq (e.length) 3)&&(Nat.beq 3 3))) (cond (Nat.ble 3 (e.length)) (r0 (e.take 3)) none) none))) none) (cond (Nat.ble 3 (b.length)) (CT N (b.take 3) d (fun f=>(cond ((Nat.beq 0 0)&&((Nat.beq (f.length) 3)&&(Nat.beq 3 3))) (cond (Nat.ble 3 (f.length)) (r0 (f.take 3)) none) none))) none)))) none) none)
def mW:=(Ah (fun (N:Nat) (a:LA) (c:Bool) (b:LA) (d:Bool) (r0:LA→O R)=>(zb N r0 a c b d))).1
theorem mX (a c b d r0):(@mW R N a c b d r0)=(zb N r0 a c b d):=by rw[mW,(Ah _).2]
def A4t:Hints:={ H:=hL,modes:=[(3,0)] }
def A63:Ek:=[(59,Xi N),(130,mS N)]
def Am4 (F:KF R):LA→O R:=(fun i=>F (.pagg i false) [])
theorem Am5 (a:LA) (c:Bool) (b:LA) (d:Bool) (F:KF R):Cn (A63 N) A4t N 96 [(.pagg a c),(.pagg b d)] [] F=(mW N a c b d (Am4 F)):=by
 rw[mX]
 kernel_rfl
def Adu (args:List AV) (h:Am) (k:KF R):O R :=
 match args,h with
 | [(.pagg a c),(.pagg b d)],[]=>(mW N a c b d (Am4 k))
 | _,_=>none
theorem Am6:Aq N 96 @Adu:=by
 intro R Q args h k j;unfold Adu;split
 exact A2 (Am5 ..) (Am5 ..) ⟨MY N,Ado N,trivial⟩
 exact A5
def Am7:=A4 (Am6 N)
theorem A4u:A1 Tryz.prog 96 (Am7 N):=A6 (Am6 N) follows
def PR (r0:LA→O R) (c:Bool) (a:LA) (d:Bool) (b:LA):O R :=
 (cond (Nat.ble 3 (a.length)) (Kl N (a.take 3) c (fun e n o p q=>(cond ((Nat.beq 0 0)&&((Nat.beq (e.length) 2)&&(Nat.beq 2 2))) (cond (Nat.ble 3 (b.length)) (Kl N (b.take 3) d (fun f r s t u=>(cond ((Nat.beq 0 0)&&((Nat.beq (f.length) 2)&&(Nat.beq 2 2))) (cond (Nat.ble 2 (e.length)) (cond (Nat.ble 2 (f.length)) (MW N (e.take 2) n (f.take 2) r (fun v l w=>(MV N o p false q s t false u (fun m x=>(Ng N [(.bool v),(.imm (w.take (l*1)) l 1 false true)] true (x.take (m*1)) m false true (fun g=>(cond ((Nat.beq 0 0)&&((Nat.beq (g.length) 3)&&(Nat.beq 3 3))) (cond (Nat.ble 3 (g.length)) (r0 (g.take 3)) none) none))))))) none) none) none))) none) none))) none)
def gU (r0:LA→O R) (q0:O R) (a:LA) (c:Bool) (b:LA) (d:Bool):O R :=
 (cond (Nat.ble 3 (a.length)) (Gy N (a.take 3) c (fun y z aa=>(cond (Nat.ble 3 (b.length)) (Gy N (b.take 3) d (fun ab ac ad=>(cond (aa==true) (cond (cond true ad false) (I6 N (wrap .i64 (y*ab)) (wrap .i64 (z*ac)) (fun i=>(cond ((Nat.beq 0 0)&&((Nat.beq (i.length) 3)&&(Nat.beq 3 3))) (cond (Nat.ble 3 (i.length)) (r0 (i.take 3)) none) none))) q0) q0))) none))) none)
def mY:=(Ah (fun (N:Nat) (a:LA) (c:Bool) (b:LA) (d:Bool) (r0:LA→O R)=>(gU N r0 (PR N r0 c a d b) a c b d))).1
theorem T_ (a c b d r0):(@mY R N a c b d r0)=(gU N r0 (PR N r0 c a d b) a c b d):=by rw[mY,(Ah _).2]
def Am8:Hints:={ H:=(hS hL (hS hL (hS hL (hJ [2,3,4] hL hL)))),modes:=[(3,0)] }
def Au1:Ek:=[(99,Yo N),(131,Ug N),(101,Td N),(103,gO N),(135,OO N),(133,CS N)]
def A4v (F:KF R):=Kk Tryz.f82 Am8 (Au1 N) [] N F
def gV (F:KF R):LA→O R:=(fun ae=>F (.pagg ae false) [])
def A4w (c:Bool) (a:LA) (d:Bool) (b:LA):St:=⟨[(2,(.optr 300000 0)),(3,(.optr 300001 0)),(4,(.optr 300002 0))],[(300000,(bP c 0 a)),(300001,(bP d 0 b)),(300002,⟨false,false,false,false,0,[(.bool false),.nsl,.nsl],false⟩)]⟩
def A4x (F:KF R):=A4v N F [1,1,1,1] []
theorem Aql (F:KF R) (c:Bool) (a:LA) (d:Bool) (b:LA):Bb (A4x N F) (A4w c a d b)=(PR N (gV F) c a d b):=by
 kernel_rfl
theorem Am9 (a:LA) (c:Bool) (b:LA) (d:Bool) (F:KF R):Cn (Au1 N) Am8 N 82 [(.pagg a c),(.pagg b d)] [] F=(mY N a c b d (gV F)):=by
 rw[T_]
 exact Eq.trans (by kernel_rfl) (Bs (gU N (gV F) · a c b d) ((As ..).trans (Aql N F c a d b)):_)
def Adv (args:List AV) (h:Am) (k:KF R):O R :=
 match args,h with
 | [(.pagg a c),(.pagg b d)],[]=>(mY N a c b d (gV k))
 | _,_=>none
theorem Ana:Aq N 82 @Adv:=by
 intro R Q args h k j;unfold Adv;split
 exact A2 (Am9 ..) (Am9 ..) ⟨JP N,FP N,Yn N,sX N,gN N,TU N,trivial⟩
 exact A5
def Anb:=A4 (Ana N)
theorem A4y:A1 Tryz.prog 82 (Anb N):=A6 (Ana N) follows
def sr (r0:LA→O R) (a:LA) (b:Bool):O R :=
 (cond (Nat.ble 2 (a.length)) (Ct 1 (a.drop 2) fun d e=>(Q5 N (a.take 2) b [(.bool false),(.imm d e 1 false b)] (b||false) (fun c=>(cond ((Nat.beq 0 0)&&((Nat.beq (c.length) 3)&&(Nat.beq 3 3))) (cond (Nat.ble 3 (c.length)) (r0 (c.take 3)) none) none)))) none)
def Rf:=(Ah (fun (N:Nat) (a:LA) (b:Bool) (r0:LA→O R)=>(sr N r0 a b))).1
theorem pQ (a b r0):(@Rf R N a b r0)=(sr N r0 a b):=by rw[Rf,(Ah _).2]
def Au2:Hints:={ H:=hL,modes:=[(3,0)] }
def Aza:Ek:=[(54,Ym N)]
def wH (F:KF R):LA→O R:=(fun f=>F (.pagg f false) [])
theorem wI (a:LA) (b:Bool) (F:KF R):Cn (Aza N) Au2 N 70 [(.pagg a b)] [] F=(Rf N a b (wH F)):=by
 rw[pQ]
 kernel_rfl
def pR (args:List AV) (h:Am) (k:KF R):O R :=
 match args,h with
 | [(.pagg a b)],[]=>(Rf N a b (wH k))
 | _,_=>none
theorem wJ:Aq N 70 @pR:=by
 intro R Q args h k j;unfold pR;split
 exact A2 (wI ..) (wI ..) ⟨JH N,trivial⟩
 exact A5
def Yw:=A4 (wJ N)
theorem KE:A1 Tryz.prog 70 (Yw N):=A6 (wJ N) follows
def Adw (r0:LA→O R) (a:LA) (b:Bool):O R :=
 (cond (Nat.ble 3 (a.length)) (Rf N (a.take 3) b (fun c=>(Ct 1 (c.drop 2) fun d e=>(r0 [(.bool false),(.imm d e 1 false false)])))) none)
def Xm:=(Ah (fun (N:Nat) (a:LA) (b:Bool) (r0:LA→O R)=>(Adw N r0 a b))).1
theorem wK (a b r0):(@Xm R N a b r0)=(Adw N r0 a b):=by rw[Xm,(Ah _).2]
def Azb:Hints:={ H:=hL,modes:=[(3,0)] }
def A4z:Ek:=[(70,Yw N)]
def Adx (F:KF R):LA→O R:=(fun f=>F (.pagg f false) [])
theorem Ady (a:LA) (b:Bool) (F:KF R):Cn (A4z N) Azb N 73 [(.pagg a b)] [] F=(Xm N a b (Adx F)):=by
 rw[wK]
 kernel_rfl
def wL (args:List AV) (h:Am) (k:KF R):O R :=
 match args,h with
 | [(.pagg a b)],[]=>(Xm N a b (Adx k))
 | _,_=>none
theorem Adz:Aq N 73 @wL:=by
 intro R Q args h k j;unfold wL;split
 exact A2 (Ady ..) (Ady ..) ⟨KE N,trivial⟩
 exact A5
def mZ:=A4 (Adz N)
theorem Ad0:A1 Tryz.prog 73 (mZ N):=A6 (Adz N) follows
def Ad1 (r0:LA→O R) (a:LA) (b:Bool):O R :=
 (cond (Nat.ble 3 (a.length)) (Rf N (a.take 3) b (fun d=>(cond (Nat.ble 2 (d.length)) (Xb N (d.take 2) false (fun e=>(cond (Nat.ble 3 (a.length)) (Xm N (a.take 3) b (fun f=>(Q5 N e false f false (fun c=>(cond ((Nat.beq 0 0)&&((Nat.beq (c.length) 3)&&(Nat.beq 3 3))) (cond (Nat.ble 3 (c.length)) (r0 (c.take 3)) none) none))))) none))) none))) none)
def gW:=(Ah (fun (N:Nat) (a:LA) (b:Bool) (r0:LA→O R)=>(Ad1 N r0 a b))).1
theorem wN (a b r0):(@gW R N a b r0)=(Ad1 N r0 a b):=by rw[gW,(Ah _).2]
def Azc:Hints:={ H:=hL,modes:=[(3,0)] }
def A40:Ek:=[(70,Yw N),(92,TC N),(73,mZ N),(54,Ym N)]
def Ad2 (F:KF R):LA→O R:=(fun g=>F (.pagg g false) [])
theorem Ad3 (a:LA) (b:Bool) (F:KF R):Cn (A40 N) Azc N 74 [(.pagg a b)] [] F=(gW N a b (Ad2 F)):=by
 rw[wN]
 kernel_rfl
def wO (args:List AV) (h:Am) (k:KF R):O R :=
 match args,h with
 | [(.pagg a b)],[]=>(gW N a b (Ad2 k))
 | _,_=>none
theorem Ad4:Aq N 74 @wO:=by
 intro R Q args h k j;unfold wO;split
 exact A2 (Ad3 ..) (Ad3 ..) ⟨KE N,lf N,Ad0 N,JH N,trivial⟩
 exact A5
def Ad5:=A4 (Ad4 N)
theorem Azd:A1 Tryz.prog 74 (Ad5 N):=A6 (Ad4 N) follows
end
end Gx

namespace Gx
open Go Go.Proofs
open IntKind (wrap)
set_option maxRecDepth 100000
noncomputable section
variable {R:Type} (N:Nat)
def KG (N:Nat) (k0:Nat→Int→LA→O R) (r0:Nat→LA→O R) (c:LA) (b:Nat) (e f:Bool) (d:LA) (a:Nat) (g i:Bool) (l:Nat) (k1:Int→Int→Int→LA→O R) (m s o:Int) (r:LA):O R :=
 (cond (decide (o<((a:Nat):Int))) (cond (Ad (wrap .i64 (m+o)) l) (Ao .u32 (r.drop (0+(((wrap .i64 (m+o)).toNat)*1))) fun t=>(cond (Ad m b) (Ao .u32 (c.drop ((m.toNat)*1)) fun u=>(cond (Ad o a) (Ao .u32 (d.drop ((o.toNat)*1)) fun v=>(cond (Ad (wrap .i64 (m+o)) l) (cond ((Nat.beq 1 1)&&((Nat.ble ((0+(((wrap .i64 (m+o)).toNat)*1))+1) (r.length))&&(!false))) (k1 m (Int.fdiv (wrap .u64 (s+(wrap .u64 ((wrap .u64 t)+(wrap .u64 ((wrap .u64 u)*(wrap .u64 v))))))) (2 ^ 32)) (wrap .i64 (o+1)) (r.set (0+(((wrap .i64 (m+o)).toNat)*1)) (.int .u32 (wrap .u32 (wrap .u64 (s+(wrap .u64 ((wrap .u64 t)+(wrap .u64 ((wrap .u64 u)*(wrap .u64 v))))))))))) none) none)) none)) none)) none) (cond (Ad (wrap .i64 (m+((a:Nat):Int))) l) (cond ((Nat.beq 1 1)&&((Nat.ble ((0+(((wrap .i64 (m+((a:Nat):Int))).toNat)*1))+1) (r.length))&&(!false))) (k0 l (wrap .i64 (m+1)) (r.set (0+(((wrap .i64 (m+((a:Nat):Int))).toNat)*1)) (.int .u32 (wrap .u32 s)))) none) none))
def Sk (k0:Nat→Int→LA→O R) (r0:Nat→LA→O R) (c:LA) (b:Nat) (e f:Bool) (d:LA) (a:Nat) (g i:Bool) (l:Nat):Nat→Int→Int→Int→LA→O R
 | 0,_,_,_,_=>none
 | n+1,m,s,o,r=>(KG N k0 r0 c b e f d a g i l (Sk k0 r0 c b e f d a g i l n) m s o r)
def KH (r0:Nat→LA→O R) (c:LA) (b:Nat) (e f:Bool) (d:LA) (a:Nat) (g i:Bool) (k0:Nat→Int→LA→O R) (q1:Int→Int→Int→LA→O R) (l:Nat) (p:Int) (q:LA):O R :=
 (cond (decide (p<((b:Nat):Int))) (q1 p 0 0 q) (D2 N (q.take (l*1)) l false true (fun w x=>(r0 w x))))
def Lu (r0:Nat→LA→O R) (c:LA) (b:Nat) (e f:Bool) (d:LA) (a:Nat) (g i:Bool):Nat→Nat→Int→LA→O R
 | 0,_,_,_=>none
 | n+1,l,p,q=>(KH N r0 c b e f d a g i (Lu r0 c b e f d a g i n) (fun m s o r=>(Sk N (Lu r0 c b e f d a g i n) r0 c b e f d a g i l N m s o r)) l p q)
def pS (N:Nat) (r0:Nat→LA→O R) (q0:Nat→Int→LA→O R) (c:LA) (b:Nat) (e f:Bool) (d:LA) (a:Nat) (g i:Bool):O R :=
 (cond ((decide (0≤(wrap .i64 (((b:Nat):Int)+((a:Nat):Int)))))&&((decide ((wrap .i64 (((b:Nat):Int)+((a:Nat):Int)))≤(wrap .i64 (((b:Nat):Int)+((a:Nat):Int)))))&&((decide ((wrap .i64 (((b:Nat):Int)+((a:Nat):Int)))≤140737488355328))&&(decide (((wrap .i64 (((b:Nat):Int)+((a:Nat):Int)))*((4:Nat):Int))≤140737488355328))))) (q0 ((wrap .i64 (((b:Nat):Int)+((a:Nat):Int))).toNat) 0 (List.replicate ((wrap .i64 (((b:Nat):Int)+((a:Nat):Int))).toNat) (.int .u32 0))) none)
def gX:=(Ah (fun (N:Nat) (c:LA) (b:Nat) (e f:Bool) (d:LA) (a:Nat) (g i:Bool) (r0:Nat→LA→O R)=>(pS N r0 (fun l p q=>(Lu N r0 c b e f d a g i N l p q)) c b e f d a g i))).1
theorem wQ (c b e f d a g i r0):(@gX R N c b e f d a g i r0)=(pS N r0 (fun l p q=>(Lu N r0 c b e f d a g i N l p q)) c b e f d a g i):=by rw[gX,(Ah _).2]
def Ad6:Hints:={ H:=(hS hL (hS hL (hS (hS hL (hS (hP [0,1,5,6] (hS hL (hS (hS (hS hL (hS (hS hL (hS (hP [0,1,5,6,7,8] hL) hL)) hL)) hL) hL))) hL)) hL))),nils:=[(4,1)],modes:=[(2,1)] }
def Anc:Ek:=[(143,F5 N)]
def Ad7 (F:KF R):=Kk Tryz.f124 Ad6 (Anc N) [] N F
def Om (F:KF R):Nat→LA→O R:=(fun y z=>F (.own 300000 0 y) [(300000,(bQ 1 z))])
def Aze (c:LA) (b:Nat) (e f:Bool) (d:LA) (a:Nat) (g i:Bool) (l:Nat) (m s o:Int) (r:LA):St:=⟨[(0,(.imm c b 1 e f)),(1,(.imm d a 1 g i)),(5,(.own 300000 0 l)),(6,(.int .i64 m)),(7,(.int .u64 s)),(8,(.int .i64 o))],[(300000,(bQ 1 r))]⟩
def Azf (F:KF R) (Q0:St→O R):=Ad7 N F [1,1,0,1,0,0,1,0,0,1,0,1,0] [Q0]
def m0 (c:LA) (b:Nat) (e f:Bool) (d:LA) (a:Nat) (g i:Bool) (l:Nat) (p:Int) (q:LA):St:=⟨[(0,(.imm c b 1 e f)),(1,(.imm d a 1 g i)),(5,(.own 300000 0 l)),(6,(.int .i64 p))],[(300000,(bQ 1 q))]⟩
def Ad8 (F:KF R):=Ad7 N F [1,1,0,1,0] []
theorem js (Q0:St→O R) (F:KF R) (c:LA) (b:Nat) (e f:Bool) (d:LA) (a:Nat) (g i:Bool) (l:Nat):∀ (n:Nat) (m s o:Int) (r:LA),Ap (Azf N F Q0) n (Aze c b e f d a g i l m s o r)=(Sk N (fun l p q=>Q0 (m0 c b e f d a g i l p q)) (Om F) c b e f d a g i l n m s o r)
 | 0,_,_,_,_=>by kernel_rfl
 | n+1,m,s,o,r=>Eq.trans (by kernel_rfl) (Bs (KG N (fun l p q=>Q0 (m0 c b e f d a g i l p q)) (Om F) c b e f d a g i l · m s o r) (funext fun m=>funext fun s=>funext fun o=>funext fun r=>(js Q0 F c b e f d a g i l n m s o r)):_)
theorem jt (F:KF R) (c:LA) (b:Nat) (e f:Bool) (d:LA) (a:Nat) (g i:Bool):∀ (n l:Nat) (p:Int) (q:LA),Ap (Ad8 N F) n (m0 c b e f d a g i l p q)=(Lu N (Om F) c b e f d a g i n l p q)
 | 0,_,_,_=>by kernel_rfl
 | n+1,l,p,q=>have e0:=(funext fun l=>funext fun p=>funext fun q=>(jt F c b e f d a g i n l p q))
  Eq.trans (by kernel_rfl) (bJ (KH N (Om F) c b e f d a g i · · l p q) e0 (funext fun m=>funext fun s=>funext fun o=>funext fun r=>(Ak ..).trans ((js N (Ap (Ad8 N F) n) F c b e f d a g i l N m s o r).trans (Bs (Sk N · (Om F) c b e f d a g i l N m s o r) e0))):_)
theorem Ad9 (c:LA) (b:Nat) (e f:Bool) (d:LA) (a:Nat) (g i:Bool) (F:KF R):Cn (Anc N) Ad6 N 124 [(.imm c b 1 e f),(.imm d a 1 g i)] [] F=(gX N c b e f d a g i (Om F)):=by
 rw[wQ]
 exact Eq.trans (by kernel_rfl) (Bs (pS N (Om F) · c b e f d a g i) (funext fun l=>funext fun p=>funext fun q=>(Ak ..).trans (jt N F c b e f d a g i N l p q)):_)
def wR (args:List AV) (h:Am) (k:KF R):O R :=
 match args,h with
 | [(.imm c b 1 e f),(.imm d a 1 g i)],[]=>(gX N c b e f d a g i (Om k))
 | _,_=>none
theorem Aea:Aq N 124 @wR:=by
 intro R Q args h k j;unfold wR;split
 exact A2 (Ad9 ..) (Ad9 ..) ⟨Hb N,trivial⟩
 exact A5
def Aeb:=A4 (Aea N)
theorem Azg:A1 Tryz.prog 124 (Aeb N):=A6 (Aea N) follows
def Aec (r0:LA→O R) (a:LA) (c:Bool) (b:LA) (d:Bool):O R :=
 (N_ a fun g=>(N_ b fun i=>(Ct 1 (a.drop 1) fun l m=>(Ct 1 (b.drop 1) fun n o=>(gX N l m false c n o false d (fun f p=>(F6 N (!(g==i)) (p.take (f*1)) f false true (fun e=>(cond ((Nat.beq 0 0)&&((Nat.beq (e.length) 2)&&(Nat.beq 2 2))) (cond (Nat.ble 2 (e.length)) (r0 (e.take 2)) none) none)))))))))
def CU:=(Ah (fun (N:Nat) (a:LA) (c:Bool) (b:LA) (d:Bool) (r0:LA→O R)=>(Aec N r0 a c b d))).1
theorem wT (a c b d r0):(@CU R N a c b d r0)=(Aec N r0 a c b d):=by rw[CU,(Ah _).2]
def Azh:Hints:={ H:=hL,modes:=[(3,0)] }
def A41:Ek:=[(124,Aeb N),(93,I3 N)]
def Aed (F:KF R):LA→O R:=(fun q=>F (.pagg q false) [])
theorem Aee (a:LA) (c:Bool) (b:LA) (d:Bool) (F:KF R):Cn (A41 N) Azh N 72 [(.pagg a c),(.pagg b d)] [] F=(CU N a c b d (Aed F)):=by
 rw[wT]
 kernel_rfl
def wU (args:List AV) (h:Am) (k:KF R):O R :=
 match args,h with
 | [(.pagg a c),(.pagg b d)],[]=>(CU N a c b d (Aed k))
 | _,_=>none
theorem Aef:Aq N 72 @wU:=by
 intro R Q args h k j;unfold wU;split
 exact A2 (Aee ..) (Aee ..) ⟨Azg N,Ld N,trivial⟩
 exact A5
def Aeg:=A4 (Aef N)
theorem Azi:A1 Tryz.prog 72 (Aeg N):=A6 (Aef N) follows
def Aeh (r0:LA→O R) (a:LA) (c:Bool) (b:LA) (d:Bool):O R :=
 (cond (Nat.ble 3 (a.length)) (Rf N (a.take 3) c (fun e=>(cond (Nat.ble 3 (b.length)) (Rf N (b.take 3) d (fun f=>(cond ((Nat.beq 0 0)&&((Nat.beq (e.length) 3)&&(Nat.beq 3 3))) (cond ((Nat.beq 0 0)&&((Nat.beq (f.length) 3)&&(Nat.beq 3 3))) (cond (Nat.ble 2 (e.length)) (cond (Nat.ble 3 (b.length)) (Xm N (b.take 3) d (fun i=>(CU N (e.take 2) false i false (fun l=>(cond (Nat.ble 2 (f.length)) (cond (Nat.ble 3 (a.length)) (Xm N (a.take 3) c (fun m=>(CU N (f.take 2) false m false (fun n=>(Xa N l false n false (fun o=>(cond (Nat.ble 3 (a.length)) (Xm N (a.take 3) c (fun p=>(cond (Nat.ble 3 (b.length)) (Xm N (b.take 3) d (fun q=>(CU N p false q false (fun r=>(Q5 N o false r false (fun g=>(cond ((Nat.beq 0 0)&&((Nat.beq (g.length) 3)&&(Nat.beq 3 3))) (cond (Nat.ble 3 (g.length)) (r0 (g.take 3)) none) none))))))) none))) none))))))) none) none))))) none) none) none) none))) none))) none)
def gY:=(Ah (fun (N:Nat) (a:LA) (c:Bool) (b:LA) (d:Bool) (r0:LA→O R)=>(Aeh N r0 a c b d))).1
theorem wV (a c b d r0):(@gY R N a c b d r0)=(Aeh N r0 a c b d):=by rw[gY,(Ah _).2]
def Azj:Hints:={ H:=hL,modes:=[(3,0)] }
def A42:Ek:=[(70,Yw N),(73,mZ N),(72,Aeg N),(71,TB N),(54,Ym N)]
def Aei (F:KF R):LA→O R:=(fun s=>F (.pagg s false) [])
theorem Aej (a:LA) (c:Bool) (b:LA) (d:Bool) (F:KF R):Cn (A42 N) Azj N 32 [(.pagg a c),(.pagg b d)] [] F=(gY N a c b d (Aei F)):=by
 rw[wV]
 kernel_rfl
def wW (args:List AV) (h:Am) (k:KF R):O R :=
 match args,h with
 | [(.pagg a c),(.pagg b d)],[]=>(gY N a c b d (Aei k))
 | _,_=>none
theorem Aek:Aq N 32 @wW:=by
 intro R Q args h k j;unfold wW;split
 exact A2 (Aej ..) (Aej ..) ⟨KE N,Ad0 N,Azi N,ld N,JH N,trivial⟩
 exact A5
def Ael:=A4 (Aek N)
theorem Azk:A1 Tryz.prog 32 (Ael N):=A6 (Aek N) follows
def Aem (r0:LA→O R) (a:LA) (c:Bool) (b:LA) (d:Bool):O R :=
 (cond (Nat.ble 3 (a.length)) (cond (Nat.ble 3 (b.length)) (gW N (b.take 3) d (fun f=>(gY N (a.take 3) c f false (fun e=>(cond ((Nat.beq 0 0)&&((Nat.beq (e.length) 3)&&(Nat.beq 3 3))) (cond (Nat.ble 3 (e.length)) (r0 (e.take 3)) none) none))))) none) none)
def gZ:=(Ah (fun (N:Nat) (a:LA) (c:Bool) (b:LA) (d:Bool) (r0:LA→O R)=>(Aem N r0 a c b d))).1
theorem wX (a c b d r0):(@gZ R N a c b d r0)=(Aem N r0 a c b d):=by rw[gZ,(Ah _).2]
def Azl:Hints:={ H:=hL,modes:=[(3,0)] }
def A43:Ek:=[(74,Ad5 N),(32,Ael N)]
def Aen (F:KF R):LA→O R:=(fun g=>F (.pagg g false) [])
theorem Aeo (a:LA) (c:Bool) (b:LA) (d:Bool) (F:KF R):Cn (A43 N) Azl N 33 [(.pagg a c),(.pagg b d)] [] F=(gZ N a c b d (Aen F)):=by
 rw[wX]
 kernel_rfl
def wY (args:List AV) (h:Am) (k:KF R):O R :=
 match args,h with
 | [(.pagg a c),(.pagg b d)],[]=>(gZ N a c b d (Aen k))
 | _,_=>none
theorem Aep:Aq N 33 @wY:=by
 intro R Q args h k j;unfold wY;split
 exact A2 (Aeo ..) (Aeo ..) ⟨Azd N,Azk N,trivial⟩
 exact A5
def Aeq:=A4 (Aep N)
theorem Azm:A1 Tryz.prog 33 (Aeq N):=A6 (Aep N) follows
def su (r0:Int→O R) (a:LA) (b:Bool):O R :=
 (cond (Nat.ble 3 (a.length)) (Rf N (a.take 3) b (fun c=>(cond (Nat.ble 2 (c.length)) (Yk N (c.take 2) false (fun d=>(r0 d))) none))) none)
def PS:=(Ah (fun (N:Nat) (a:LA) (b:Bool) (r0:Int→O R)=>(su N r0 a b))).1
theorem pT (a b r0):(@PS R N a b r0)=(su N r0 a b):=by rw[PS,(Ah _).2]
def Au3:Hints:={ H:=hL }
def Azn:Ek:=[(70,Yw N),(75,bS N)]
def wZ (F:KF R):Int→O R:=(fun e=>F (.int .i64 e) [])
theorem w8 (a:LA) (b:Bool) (F:KF R):Cn (Azn N) Au3 N 34 [(.pagg a b)] [] F=(PS N a b (wZ F)):=by
 rw[pT]
 kernel_rfl
def pU (args:List AV) (h:Am) (k:KF R):O R :=
 match args,h with
 | [(.pagg a b)],[]=>(PS N a b (wZ k))
 | _,_=>none
theorem w9:Aq N 34 @pU:=by
 intro R Q args h k j;unfold pU;split
 exact A2 (w8 ..) (w8 ..) ⟨KE N,vA N,trivial⟩
 exact A5
def w_:=A4 (w9 N)
theorem Au4:A1 Tryz.prog 34 (w_ N):=A6 (w9 N) follows
def T' (r0:Int→O R) (a:LA) (c:Bool) (b:LA) (d:Bool):O R :=
 (cond (Nat.ble 3 (a.length)) (cond (Nat.ble 3 (b.length)) (gZ N (a.take 3) c (b.take 3) d (fun e=>(PS N e false (fun f=>(r0 f))))) none) none)
def I9:=(Ah (fun (N:Nat) (a:LA) (c:Bool) (b:LA) (d:Bool) (r0:Int→O R)=>(T' N r0 a c b d))).1
theorem XM (a c b d r0):(@I9 R N a c b d r0)=(T' N r0 a c b d):=by rw[I9,(Ah _).2]
def Aer:Hints:={ H:=hL }
def Ajz:Ek:=[(33,Aeq N),(34,w_ N)]
def dO (F:KF R):Int→O R:=(fun g=>F (.int .i64 g) [])
theorem dP (a:LA) (c:Bool) (b:LA) (d:Bool) (F:KF R):Cn (Ajz N) Aer N 25 [(.pagg a c),(.pagg b d)] [] F=(I9 N a c b d (dO F)):=by
 rw[XM]
 kernel_rfl
def XN (args:List AV) (h:Am) (k:KF R):O R :=
 match args,h with
 | [(.pagg a c),(.pagg b d)],[]=>(I9 N a c b d (dO k))
 | _,_=>none
theorem dQ:Aq N 25 @XN:=by
 intro R Q args h k j;unfold XN;split
 exact A2 (dP ..) (dP ..) ⟨Azm N,Au4 N,trivial⟩
 exact A5
def dR:=A4 (dQ N)
theorem Aes:A1 Tryz.prog 25 (dR N):=A6 (dQ N) follows
end
end Gx

namespace Gx
open Go Go.Proofs
open IntKind (wrap)
set_option maxRecDepth 100000
noncomputable section
variable {R:Type} (N:Nat)
def dS (r0:Bool→O R) (c:Int) (b:Bool) (a:LA):O R :=
 (Ao .i64 (a.drop 2) fun d=>(Ao .i64 (a.drop 3) fun e=>(Ao .i64 (a.drop 8) fun f=>(Ao .i64 (a.drop 9) fun g=>(Db N d e [(.int .i64 f),(.int .i64 g)] 2 false true (fun i=>(cond (!i) (r0 false) (Ao .i64 (a.drop 5) fun l=>(Ao .i64 (a.drop 13) fun m=>(Ao .i64 (a.drop 14) fun n=>(Ao .i64 (a.drop 17) fun o=>(Db N 0 1048576 [(.int .i64 l),(.int .i64 m),(.int .i64 n),(.int .i64 o)] 4 false true (fun p=>(cond (!p) (r0 false) (Ao .i64 (a.drop 19) fun q=>(cond (q==2) (Ao .i64 (a.drop 2) fun r=>(Ao .i64 (a.drop 3) fun s=>(Ao .i64 (a.drop 21) fun t=>(Db N r s [(.int .i64 t)] 1 false true (fun u=>(cond (!u) (r0 false) (cond (Nat.ble 22 (a.length)) (Fl N (a.take 22) b (fun v=>(cond (v==true) (Ct 1 (a.drop 18) fun w x=>(Lr N w x false b c (fun y=>(r0 (cond true y false))))) (r0 false)))) none))))))) (Ao .i64 (a.drop 21) fun z=>(cond (z != 0) (r0 false) (cond (Nat.ble 22 (a.length)) (Fl N (a.take 22) b (fun aa=>(cond (aa==true) (Ct 1 (a.drop 18) fun ab ac=>(Lr N ab ac false b c (fun ad=>(r0 (cond true ad false))))) (r0 false)))) none)))))))))))))))))))
def UA (r0:Bool→O R) (c:Int) (b:Bool) (a:LA) (q1:O R):O R :=
 (Ao .i64 (a.drop 2) fun ae=>(Ao .i64 (a.drop 3) fun af=>(Ao .i64 (a.drop 6) fun ag=>(Ao .i64 (a.drop 7) fun ah=>(Ao .i64 (a.drop 16) fun ai=>(Db N 0 1048576 [(.int .i64 ae),(.int .i64 af),(.int .i64 ag),(.int .i64 ah),(.int .i64 ai)] 5 false true (fun aj=>(cond ((!aj)==false) (Ao .i64 (a.drop 2) fun ak=>(Ao .i64 (a.drop 3) fun al=>(cond (cond false true (decide (ak>al))) (r0 false) q1))) (r0 false)))))))))
def KI (r0:Bool→O R) (c:Int) (b:Bool) (a:LA):O R:=(UA N r0 c b a (dS N r0 c b a))
def g8 (r0:Bool→O R) (q0:O R) (a:LA) (b:Bool) (c:Int):O R :=
 (Db N 1 24 [(.int .i64 c)] 1 false true (fun am=>(cond ((!am)==false) (cond (Nat.ble 22 (a.length)) (Ok N (a.take 22) b (fun an=>(cond (cond false true (!an)) (r0 false) q0))) none) (r0 false))))
def Yx:=(Ah (fun (N:Nat) (a:LA) (b:Bool) (c:Int) (r0:Bool→O R)=>(g8 N r0 (KI N r0 c b a) a b c))).1
theorem pV (a b c r0):(@Yx R N a b c r0)=(g8 N r0 (KI N r0 c b a) a b c):=by rw[Yx,(Ah _).2]
def wc:Hints:={ H:=(hS hL (hJ [1,2] hL (hJ [1,2] hL hL))) }
def Aet:Ek:=[(47,Xf N),(48,Ti N),(49,AZ N),(50,WY N)]
def wg (F:KF R):=Kk Tryz.f16 wc (Aet N) [] N F
def Tm (F:KF R):Bool→O R:=(fun ao=>F (.bool ao) [])
def Au5 (c:Int) (b:Bool) (a:LA):St:=⟨[(1,(.int .i64 c)),(2,(.optr 300000 0))],[(300000,(bP b 0 a))]⟩
def Au6 (F:KF R):=wg N F [1,1,1] []
def Au7 (c:Int) (b:Bool) (a:LA):St:=⟨[(1,(.int .i64 c)),(2,(.optr 300000 0))],[(300000,(bP b 0 a))]⟩
def Au8 (F:KF R):=wg N F [1,1] []
theorem Aeu (F:KF R) (c:Int) (b:Bool) (a:LA):Bb (Au6 N F) (Au5 c b a)=(dS N (Tm F) c b a):=by
 kernel_rfl
theorem Aev (F:KF R) (c:Int) (b:Bool) (a:LA):Bb (Au8 N F) (Au7 c b a)=(KI N (Tm F) c b a):=by
 exact Eq.trans (by kernel_rfl) (Bs (UA N (Tm F) c b a ·) ((As ..).trans (Aeu N F c b a)):_)
theorem wh (a:LA) (b:Bool) (c:Int) (F:KF R):Cn (Aet N) wc N 16 [(.pagg a b),(.int .i64 c)] [] F=(Yx N a b c (Tm F)):=by
 rw[pV]
 exact Eq.trans (by kernel_rfl) (Bs (g8 N (Tm F) · a b c) ((As ..).trans (Aev N F c b a)):_)
def pW (args:List AV) (h:Am) (k:KF R):O R :=
 match args,h with
 | [(.pagg a b),(.int .i64 c)],[]=>(Yx N a b c (Tm k))
 | _,_=>none
theorem wi:Aq N 16 @pW:=by
 intro R Q args h k j;unfold pW;split
 exact A2 (wh ..) (wh ..) ⟨MX N,Yt N,hG N,yc N,trivial⟩
 exact A5
def KJ:=A4 (wi N)
theorem dT:A1 Tryz.prog 16 (KJ N):=A6 (wi N) follows
def m7 (r0:Bool→O R) (a:LA) (b:Bool) (c d:Int):O R :=
 (cond (Nat.ble 3 (a.length)) (Dr N c (fun e=>(Hu N (a.take 3) b e false (fun f=>(cond ((decide (f≥0))==true) (cond (Nat.ble 3 (a.length)) (Dr N d (fun g=>(Hu N (a.take 3) b g false (fun i=>(r0 (cond true (decide (i≤0)) false)))))) none) (r0 false)))))) none)
def Wr:=(Ah (fun (N:Nat) (a:LA) (b:Bool) (c d:Int) (r0:Bool→O R)=>(m7 N r0 a b c d))).1
theorem ju (a b c d r0):(@Wr R N a b c d r0)=(m7 N r0 a b c d):=by rw[Wr,(Ah _).2]
def Aqm:Hints:={ H:=hL }
def Au9:Ek:=[(60,Q6 N),(59,Xi N)]
def pX (F:KF R):Bool→O R:=(fun l=>F (.bool l) [])
theorem pY (a:LA) (b:Bool) (c d:Int) (F:KF R):Cn (Au9 N) Aqm N 56 [(.pagg a b),(.int .i64 c),(.int .i64 d)] [] F=(Wr N a b c d (pX F)):=by
 rw[ju]
 kernel_rfl
def jv (args:List AV) (h:Am) (k:KF R):O R :=
 match args,h with
 | [(.pagg a b),(.int .i64 c),(.int .i64 d)],[]=>(Wr N a b c d (pX k))
 | _,_=>none
theorem pZ:Aq N 56 @jv:=by
 intro R Q args h k j;unfold jv;split
 exact A2 (pY ..) (pY ..) ⟨Xc N,MY N,trivial⟩
 exact A5
def UB:=A4 (pZ N)
theorem p8:A1 Tryz.prog 56 (UB N):=A6 (pZ N) follows
def sv (r0:LA→O R) (b:Int) (a:LA) (c:Bool):O R :=
 (Dr N b (fun e=>(cond (Nat.ble 3 (a.length)) (mY N e false (a.take 3) c (fun d=>(cond ((Nat.beq 0 0)&&((Nat.beq (d.length) 3)&&(Nat.beq 3 3))) (cond (Nat.ble 3 (d.length)) (r0 (d.take 3)) none) none))) none)))
def PT:=(Ah (fun (N:Nat) (b:Int) (a:LA) (c:Bool) (r0:LA→O R)=>(sv N r0 b a c))).1
theorem p9 (b a c r0):(@PT R N b a c r0)=(sv N r0 b a c):=by rw[PT,(Ah _).2]
def Ava:Hints:={ H:=hL,modes:=[(3,0)] }
def Azo:Ek:=[(60,Q6 N),(82,Anb N)]
def wk (F:KF R):LA→O R:=(fun f=>F (.pagg f false) [])
theorem wl (b:Int) (a:LA) (c:Bool) (F:KF R):Cn (Azo N) Ava N 86 [(.int .i64 b),(.pagg a c)] [] F=(PT N b a c (wk F)):=by
 rw[p9]
 kernel_rfl
def p_ (args:List AV) (h:Am) (k:KF R):O R :=
 match args,h with
 | [(.int .i64 b),(.pagg a c)],[]=>(PT N b a c (wk k))
 | _,_=>none
theorem wm:Aq N 86 @p_:=by
 intro R Q args h k j;unfold p_;split
 exact A2 (wl ..) (wl ..) ⟨Xc N,A4y N,trivial⟩
 exact A5
def wo:=A4 (wm N)
theorem Avb:A1 Tryz.prog 86 (wo N):=A6 (wm N) follows
def Lv (r0:LA→O R) (e:LA) (f:Nat) (b:Bool) (k0:Int→Int→LA→LA→O R) (g c:Int) (d a:LA):O R :=
 (cond (decide (c<g)) (cond (Ad c f) (cond (Nat.ble 2 ((e.drop ((c.toNat)*2)).length)) (cond ((!b)||(Bd ((e.drop ((c.toNat)*2)).take 2))) (cond ((Nat.beq (((e.drop ((c.toNat)*2)).take 2).length) 2)&&((Nat.ble 2 2)&&(!false))) (cond (Nat.ble 3 (d.length)) (Xe N (d.take 3) false (fun t=>(cond (decide (t≤0)) (cond (Nat.ble 3 (a.length)) (cond ((Nat.beq 0 0)&&((Nat.beq ((a.take 3).length) 3)&&(Nat.beq 3 3))) (cond (Nat.ble 3 ((a.take 3).length)) (r0 ((a.take 3).take 3)) none) none) none) (cond (Nat.ble 3 (d.length)) (Ao .i64 (setCells [(.int .i64 0),(.int .i64 0)] 0 ((e.drop ((c.toNat)*2)).take 2)) fun u=>(Dr N u (fun v=>(mW N (d.take 3) false v false (fun o=>(cond ((Nat.beq 0 0)&&((Nat.beq (o.length) 3)&&(Nat.beq 3 3))) (cond (Nat.ble 3 (a.length)) (Ao .i64 ((setCells [(.int .i64 0),(.int .i64 0)] 0 ((e.drop ((c.toNat)*2)).take 2)).drop 1) fun w=>(cond (Nat.ble 3 (o.length)) (PT N w (o.take 3) false (fun x=>(TX N (a.take 3) false x false (fun p=>(cond ((Nat.beq (p.length) 3)&&((Nat.ble 3 (a.length))&&(!false))) (cond (Nat.ble 3 (d.length)) (cond (Nat.ble 3 (o.length)) (TZ N (d.take 3) false (o.take 3) false (fun q=>(cond ((Nat.beq (q.length) 3)&&((Nat.ble 3 (d.length))&&(!false))) (k0 g (wrap .i64 (c+1)) (setCells d 0 q) (setCells a 0 p)) none))) none) none) none))))) none)) none) none)))))) none)))) none) none) none) none) none) (cond (Nat.ble 3 (a.length)) (cond ((Nat.beq 0 0)&&((Nat.beq ((a.take 3).length) 3)&&(Nat.beq 3 3))) (cond (Nat.ble 3 ((a.take 3).length)) (r0 ((a.take 3).take 3)) none) none) none))
def Ev (r0:LA→O R) (e:LA) (f:Nat) (b:Bool):Nat→Int→Int→LA→LA→O R
 | 0,_,_,_,_=>none
 | n+1,g,c,d,a=>(Lv N r0 e f b (Ev r0 e f b n) g c d a)
def Rt (r0:LA→O R) (q0:LA→Nat→Int→Int→LA→LA→O R) (i:LA) (b:Bool) (l:LA) (m:Bool):O R :=
 (cond (Nat.ble 3 (l.length)) (Ao .i64 (i.drop 2) fun y=>(Dr N y (fun z=>(TZ N (l.take 3) m z false (fun r=>(cond ((Nat.beq 0 0)&&((Nat.beq (r.length) 3)&&(Nat.beq 3 3))) (Dr N 0 (fun s=>(cond ((Nat.beq 0 0)&&((Nat.beq (s.length) 3)&&(Nat.beq 3 3))) (Ct 2 (i.drop 4) fun e f=>(q0 e f ((f:Nat):Int) 0 r s)) none))) none)))))) none)
def Ks:=(Ah (fun (N:Nat) (i:LA) (b:Bool) (l:LA) (m:Bool) (r0:LA→O R)=>(Rt N r0 (fun e f g c d a=>(Ev N r0 e f b N g c d a)) i b l m))).1
theorem GF (i b l m r0):(@Ks R N i b l m r0)=(Rt N r0 (fun e f g c d a=>(Ev N r0 e f b N g c d a)) i b l m):=by rw[Ks,(Ah _).2]
def KK:Hints:={ H:=(hS hL (hS hL (hS hL (hS (hS hL (hS (hP [4,5,6,17,18,19] hL) hL)) hL)))),modes:=[(3,0)] }
def PU:Ek:=[(60,Q6 N),(83,Am3 N),(95,TI N),(96,Am7 N),(86,wo N),(81,sq N)]
def pa (F:KF R):=Kk Tryz.f57 KK (PU N) [] N F
def Ja (F:KF R):LA→O R:=(fun aa=>F (.pagg aa false) [])
def pb (e:LA) (f:Nat) (b:Bool) (g c:Int) (d a:LA):St:=⟨[(4,(.optr 300000 0)),(5,(.optr 300001 0)),(6,(.optr 300002 0)),(17,(.imm e f 2 false b)),(18,(.int .i64 g)),(19,(.int .i64 c))],[(300000,⟨false,false,false,false,0,[(.bool false),.nsl,.nsl],false⟩),(300001,(bQ 0 d)),(300002,(bQ 0 a))]⟩
def pc (F:KF R):=pa N F [1,1,1,0,1,0] []
theorem Yy (F:KF R) (e:LA) (f:Nat) (b:Bool):∀ (n:Nat) (g c:Int) (d a:LA),Ap (pc N F) n (pb e f b g c d a)=(Ev N (Ja F) e f b n g c d a)
 | 0,_,_,_,_=>by kernel_rfl
 | n+1,g,c,d,a=>Eq.trans (by kernel_rfl) (Bs (Lv N (Ja F) e f b · g c d a) (funext fun g=>funext fun c=>funext fun d=>funext fun a=>(Yy F e f b n g c d a)):_)
theorem KL (i:LA) (b:Bool) (l:LA) (m:Bool) (F:KF R):Cn (PU N) KK N 57 [(.pagg i b),(.pagg l m)] [] F=(Ks N i b l m (Ja F)):=by
 rw[GF]
 exact Eq.trans (by kernel_rfl) (Bs (Rt N (Ja F) · i b l m) (funext fun e=>funext fun f=>funext fun g=>funext fun c=>funext fun d=>funext fun a=>(Ak ..).trans (Yy N F e f b N g c d a)):_)
def GG (args:List AV) (h:Am) (k:KF R):O R :=
 match args,h with
 | [(.pagg i b),(.pagg l m)],[]=>(Ks N i b l m (Ja k))
 | _,_=>none
theorem KM:Aq N 57 @GG:=by
 intro R Q args h k j;unfold GG;split
 exact A2 (KL ..) (KL ..) ⟨Xc N,A4s N,lk N,A4u N,Avb N,Amz N,trivial⟩
 exact A5
def KN:=A4 (KM N)
theorem pe:A1 Tryz.prog 57 (KN N):=A6 (KM N) follows
def Z8 (r0:LA→Int→O R) (a:LA) (c:Bool) (b:LA) (d:Bool):O R :=
 (cond (Nat.ble 22 (a.length)) (Yx N (a.take 22) c 24 (fun f=>(cond (!f) (r0 [(.bool false),.nsl,.nsl] 1) (cond (Nat.ble 3 (b.length)) (Ao .i64 (a.drop 2) fun g=>(Ao .i64 (a.drop 3) fun i=>(Wr N (b.take 3) d g i (fun l=>(cond (!l) (r0 [(.bool false),.nsl,.nsl] 3) (cond (Nat.ble 22 (a.length)) (cond (Nat.ble 3 (b.length)) (Ks N (a.take 22) c (b.take 3) d (fun e=>(cond ((Nat.beq 0 0)&&((Nat.beq (e.length) 3)&&(Nat.beq 3 3))) (cond (Nat.ble 3 (e.length)) (r0 (e.take 3) 0) none) none))) none) none)))))) none)))) none)
def Kt:=(Ah (fun (N:Nat) (a:LA) (c:Bool) (b:LA) (d:Bool) (r0:LA→Int→O R)=>(Z8 N r0 a c b d))).1
theorem GH (a c b d r0):(@Kt R N a c b d r0)=(Z8 N r0 a c b d):=by rw[Kt,(Ah _).2]
def pf:Hints:={ H:=hL,modes:=[(3,0),(0,0)] }
def sw:Ek:=[(16,KJ N),(56,UB N),(57,KN N)]
def KO (F:KF R):LA→Int→O R:=(fun m n=>F (.tup [(.pagg m false),(.int .i64 n)]) [])
theorem KP (a:LA) (c:Bool) (b:LA) (d:Bool) (F:KF R):Cn (sw N) pf N 21 [(.pagg a c),(.pagg b d)] [] F=(Kt N a c b d (KO F)):=by
 rw[GH]
 kernel_rfl
def GI (args:List AV) (h:Am) (k:KF R):O R :=
 match args,h with
 | [(.pagg a c),(.pagg b d)],[]=>(Kt N a c b d (KO k))
 | _,_=>none
theorem KQ:Aq N 21 @GI:=by
 intro R Q args h k j;unfold GI;split
 exact A2 (KP ..) (KP ..) ⟨dT N,p8 N,pe N,trivial⟩
 exact A5
def KR:=A4 (KQ N)
theorem pg:A1 Tryz.prog 21 (KR N):=A6 (KQ N) follows
def On (k1:Bool→Bool→Int→Int→Int→LA→LA→O R) (r0:LA→LA→Bool→Bool→O R) (i:Bool) (r s:Int) (f:LA) (l:Nat) (c:Bool) (g d:Int) (b:Bool) (a e:LA) (t:Bool) (u:Int) (v w:LA):O R :=
 (cond ((decide (r≥0))==true) (cond (cond true (decide (s<0)) false) (Ao .i64 (w.drop 1) fun aa=>(Dr N aa (fun y=>(cond ((Nat.beq (y.length) 3)&&((Nat.ble 3 (e.length))&&(!false))) (k1 t true u g (wrap .i64 (d+1)) v (setCells e 0 y)) none)))) (k1 t i u g (wrap .i64 (d+1)) v e)) (k1 t i u g (wrap .i64 (d+1)) v e))
def Ru (r0:LA→LA→Bool→Bool→O R) (f:LA) (l:Nat) (c b:Bool) (a:LA) (k1:Bool→Bool→Int→Int→Int→LA→LA→O R) (q2:Int→Int→Bool→Int→LA→LA→O R) (q i:Bool) (p g d:Int) (o e:LA):O R :=
 (cond (decide (d<g)) (cond (Ad d l) (cond (Nat.ble 2 ((f.drop ((d.toNat)*2)).length)) (cond ((!c)||(Bd ((f.drop ((d.toNat)*2)).take 2))) (cond ((Nat.beq (((f.drop ((d.toNat)*2)).take 2).length) 2)&&((Nat.ble 2 2)&&(!false))) (Ao .i64 (setCells [(.int .i64 0),(.int .i64 0)] 0 ((f.drop ((d.toNat)*2)).take 2)) fun x=>(cond (Nat.ble 3 (a.length)) (Dr N p (fun ab=>(Hu N (a.take 3) b ab false (fun r=>(cond (Nat.ble 3 (a.length)) (Dr N (wrap .i64 (p+x)) (fun ac=>(Hu N (a.take 3) b ac false (fun s=>(cond ((decide (r>0))==true) (cond (cond true (decide (s≤0)) false) (Ao .i64 ((setCells [(.int .i64 0),(.int .i64 0)] 0 ((f.drop ((d.toNat)*2)).take 2)).drop 1) fun ad=>(Dr N ad (fun z=>(cond ((Nat.beq (z.length) 3)&&((Nat.ble 3 (o.length))&&(!false))) (q2 r s true (wrap .i64 (p+x)) (setCells o 0 z) (setCells [(.int .i64 0),(.int .i64 0)] 0 ((f.drop ((d.toNat)*2)).take 2))) none)))) (q2 r s q (wrap .i64 (p+x)) o (setCells [(.int .i64 0),(.int .i64 0)] 0 ((f.drop ((d.toNat)*2)).take 2)))) (q2 r s q (wrap .i64 (p+x)) o (setCells [(.int .i64 0),(.int .i64 0)] 0 ((f.drop ((d.toNat)*2)).take 2)))))))) none))))) none)) none) none) none) none) (cond (Nat.ble 3 (o.length)) (cond (Nat.ble 3 (e.length)) (cond ((Nat.beq ((o.take 3).length) 3)&&((Nat.ble 3 (o.length))&&(!false))) (cond ((Nat.beq ((e.take 3).length) 3)&&((Nat.ble 3 (e.length))&&(!false))) (cond (Nat.ble 3 ((setCells o 0 (o.take 3)).length)) (cond (Nat.ble 3 ((setCells e 0 (e.take 3)).length)) (r0 ((setCells o 0 (o.take 3)).take 3) ((setCells e 0 (e.take 3)).take 3) q i) none) none) none) none) none) none))
def F9 (r0:LA→LA→Bool→Bool→O R) (f:LA) (l:Nat) (c b:Bool) (a:LA):Nat→Bool→Bool→Int→Int→Int→LA→LA→O R
 | 0,_,_,_,_,_,_,_=>none
 | n+1,q,i,p,g,d,o,e=>(Ru N r0 f l c b a (F9 r0 f l c b a n) (fun r s t u v w=>(On N (F9 r0 f l c b a n) r0 i r s f l c g d b a e t u v w)) q i p g d o e)
def Z9 (N:Nat) (r0:LA→LA→Bool→Bool→O R) (c:Bool) (m:LA) (b:Bool) (a:LA) (q1:LA→Nat→Bool→Bool→Int→Int→Int→LA→LA→O R):O R :=
 (Ao .i64 (m.drop 2) fun ae=>(Ct 2 (m.drop 4) fun f l=>(q1 f l false false ae ((l:Nat):Int) 0 [(.bool false),.nsl,.nsl] [(.bool false),.nsl,.nsl])))
def Uk (r0:LA→LA→Bool→Bool→O R) (c:Bool) (m:LA) (b:Bool) (a:LA):O R:=(Z9 N r0 c m b a (fun f l q i p g d o e=>(F9 N r0 f l c b a N q i p g d o e)))
def CV (r0:LA→LA→Bool→Bool→O R) (q0:O R) (m:LA) (c:Bool) (a:LA) (b:Bool):O R :=
 (cond (Nat.ble 22 (m.length)) (Yx N (m.take 22) c 24 (fun af=>(cond ((!af)==false) (cond (Nat.ble 3 (a.length)) (Ao .i64 (m.drop 2) fun ag=>(Ao .i64 (m.drop 3) fun ah=>(Wr N (a.take 3) b ag ah (fun ai=>(cond (cond false true (!ai)) (r0 [(.bool false),.nsl,.nsl] [(.bool false),.nsl,.nsl] false false) q0))))) none) (r0 [(.bool false),.nsl,.nsl] [(.bool false),.nsl,.nsl] false false)))) none)
def Tn:=(Ah (fun (N:Nat) (m:LA) (c:Bool) (a:LA) (b:Bool) (r0:LA→LA→Bool→Bool→O R)=>(CV N r0 (Uk N r0 c m b a) m c a b))).1
theorem XO (m c a b r0):(@Tn R N m c a b r0)=(CV N r0 (Uk N r0 c m b a) m c a b):=by rw[Tn,(Ah _).2]
def dU:Hints:={ H:=(hS hL (hJ [2,3,4,5,6,7] hL (hS hL (hS (hS hL (hS (hP [3,4,5,6,7,8,31,32,33] (hS hL (hS hL (hS (hS (hS hL (hS hL (hS hL (hS hL (hJ [3,4,5,6,7,10,11,12,13,31,32,33] hL hL))))) hL) hL)))) hL)) hL)))),modes:=[(3,0),(3,0),(0,0),(0,0)],cob:=[4,5,10] }
def jw:Ek:=[(16,KJ N),(56,UB N),(60,Q6 N),(59,Xi N)]
def GJ (F:KF R):=Kk Tryz.f23 dU (jw N) [] N F
def Ew (F:KF R):LA→LA→Bool→Bool→O R:=(fun aj ak al am=>F (.tup [(.pagg aj false),(.pagg ak false),(.bool al),(.bool am)]) [])
def Aew (i:Bool) (r s:Int) (f:LA) (l:Nat) (c:Bool) (g d:Int) (b:Bool) (a e:LA) (t:Bool) (u:Int) (v w:LA):St:=⟨[(3,(.optr 300000 0)),(4,(.optr 300001 0)),(5,(.optr 300002 0)),(6,(.bool t)),(7,(.bool i)),(10,(.optr 300003 0)),(11,(.int .i64 u)),(12,(.int .i64 r)),(13,(.int .i64 s)),(31,(.imm f l 2 false c)),(32,(.int .i64 g)),(33,(.int .i64 d))],[(300000,(bP b 0 a)),(300001,(bQ 0 v)),(300002,(bQ 0 e)),(300003,(bQ 0 w))]⟩
def Aex (F:KF R) (Q1:St→O R):=GJ N F [1,1,1,0,1,0,0,1,1,0,0,1,1,1,1,1] [Q1]
def dV (f:LA) (l:Nat) (c b:Bool) (a:LA) (q i:Bool) (p g d:Int) (o e:LA):St:=⟨[(3,(.optr 300000 0)),(4,(.optr 300001 0)),(5,(.optr 300002 0)),(6,(.bool q)),(7,(.bool i)),(8,(.int .i64 p)),(31,(.imm f l 2 false c)),(32,(.int .i64 g)),(33,(.int .i64 d))],[(300000,(bP b 0 a)),(300001,(bQ 0 o)),(300002,(bQ 0 e))]⟩
def dW (F:KF R):=GJ N F [1,1,1,0,1,0] []
def Aey (c:Bool) (m:LA) (b:Bool) (a:LA):St:=⟨[(2,(.optr 300000 0)),(3,(.optr 300001 0)),(4,(.optr 300002 0)),(5,(.optr 300003 0)),(6,(.bool false)),(7,(.bool false))],[(300000,(bP c 0 m)),(300001,(bP b 0 a)),(300002,(bQ 0 [(.bool false),.nsl,.nsl])),(300003,(bQ 0 [(.bool false),.nsl,.nsl]))]⟩
def Aez (F:KF R):=GJ N F [1,1] []
theorem ph (Q1:St→O R) (F:KF R) (i:Bool) (r s:Int) (f:LA) (l:Nat) (c:Bool) (g d:Int) (b:Bool) (a e:LA):∀ (t:Bool) (u:Int) (v w:LA),Bb (Aex N F Q1) (Aew i r s f l c g d b a e t u v w)=(On N (fun q i p g d o e=>Q1 (dV f l c b a q i p g d o e)) (Ew F) i r s f l c g d b a e t u v w):=by
 intro t u v w
 kernel_rfl
theorem KS (F:KF R) (f:LA) (l:Nat) (c b:Bool) (a:LA):∀ (n:Nat) (q i:Bool) (p g d:Int) (o e:LA),Ap (dW N F) n (dV f l c b a q i p g d o e)=(F9 N (Ew F) f l c b a n q i p g d o e)
 | 0,_,_,_,_,_,_,_=>by kernel_rfl
 | n+1,q,i,p,g,d,o,e=>have e0:=(funext fun q=>funext fun i=>funext fun p=>funext fun g=>funext fun d=>funext fun o=>funext fun e=>(KS F f l c b a n q i p g d o e))
  Eq.trans (by kernel_rfl) (bJ (Ru N (Ew F) f l c b a · · q i p g d o e) e0 (funext fun r=>funext fun s=>funext fun t=>funext fun u=>funext fun v=>funext fun w=>(As ..).trans ((ph N (Ap (dW N F) n) F i r s f l c g d b a e t u v w).trans (Bs (On N · (Ew F) i r s f l c g d b a e t u v w) e0))):_)
theorem pi (F:KF R) (c:Bool) (m:LA) (b:Bool) (a:LA):Bb (Aez N F) (Aey c m b a)=(Uk N (Ew F) c m b a):=by
 exact Eq.trans (by kernel_rfl) (Bs (Z9 N (Ew F) c m b a ·) (funext fun f=>funext fun l=>funext fun q=>funext fun i=>funext fun p=>funext fun g=>funext fun d=>funext fun o=>funext fun e=>(Ak ..).trans (KS N F f l c b a N q i p g d o e)):_)
theorem dX (m:LA) (c:Bool) (a:LA) (b:Bool) (F:KF R):Cn (jw N) dU N 23 [(.pagg m c),(.pagg a b)] [] F=(Tn N m c a b (Ew F)):=by
 rw[XO]
 exact Eq.trans (by kernel_rfl) (Bs (CV N (Ew F) · m c a b) ((As ..).trans (pi N F c m b a)):_)
def XP (args:List AV) (h:Am) (k:KF R):O R :=
 match args,h with
 | [(.pagg m c),(.pagg a b)],[]=>(Tn N m c a b (Ew k))
 | _,_=>none
theorem dY:Aq N 23 @XP:=by
 intro R Q args h k j;unfold XP;split
 exact A2 (dX ..) (dX ..) ⟨dT N,p8 N,Xc N,MY N,trivial⟩
 exact A5
def dZ:=A4 (dY N)
theorem Ae0:A1 Tryz.prog 23 (dZ N):=A6 (dY N) follows
def KT (N:Nat) (r0:LA→O R) (d:LA) (c:Nat) (a:Bool) (k0:Int→Int→LA→O R) (e b:Int) (f:LA):O R :=
 (cond (decide (b<e)) (cond (Ad b c) (Ao .i64 (d.drop ((b.toNat)*1)) fun i=>(k0 e (wrap .i64 (b+1)) (Axk f i))) none) (r0 f))
def Sm (r0:LA→O R) (d:LA) (c:Nat) (a:Bool):Nat→Int→Int→LA→O R
 | 0,_,_,_=>none
 | n+1,e,b,f=>(KT N r0 d c a (Sm r0 d c a n) e b f)
def pj (N:Nat) (r0:LA→O R) (q0:LA→Nat→Int→Int→LA→O R) (g:LA) (a:Bool):O R :=
 (Ct 1 (g.drop 18) fun d c=>(q0 d c ((c:Nat):Int) 0 []))
def UC:=(Ah (fun (N:Nat) (g:LA) (a:Bool) (r0:LA→O R)=>(pj N r0 (fun d c e b f=>(Sm N r0 d c a N e b f)) g a))).1
theorem d6 (g a r0):(@UC R N g a r0)=(pj N r0 (fun d c e b f=>(Sm N r0 d c a N e b f)) g a):=by rw[UC,(Ah _).2]
def Ae1:Hints:={ H:=(hS hL (hS hL (hS (hS hL (hS (hP [3,8,9,10] hL) hL)) hL))) }
def Azp (F:KF R):=Kk Tryz.f117 Ae1 [] [] N F
def GK (F:KF R):LA→O R:=(fun l=>F (.omap 300000) [(300000,⟨false,false,true,false,0,l,true⟩)])
def Azq (d:LA) (c:Nat) (a:Bool) (e b:Int) (f:LA):St:=⟨[(3,(.omap 300000)),(8,(.imm d c 1 false a)),(9,(.int .i64 e)),(10,(.int .i64 b))],[(300000,⟨false,false,true,false,0,f,true⟩)]⟩
def Azr (F:KF R):=Azp N F [1,1,0,1,0] []
theorem jx (F:KF R) (d:LA) (c:Nat) (a:Bool):∀ (n:Nat) (e b:Int) (f:LA),Ap (Azr N F) n (Azq d c a e b f)=(Sm N (GK F) d c a n e b f)
 | 0,_,_,_=>by kernel_rfl
 | n+1,e,b,f=>Eq.trans (by kernel_rfl) (Bs (KT N (GK F) d c a · e b f) (funext fun e=>funext fun b=>funext fun f=>(jx F d c a n e b f)):_)
theorem Ae2 (g:LA) (a:Bool) (F:KF R):Cn [] Ae1 N 117 [(.pagg g a)] [] F=(UC N g a (GK F)):=by
 rw[d6]
 exact Eq.trans (by kernel_rfl) (Bs (pj N (GK F) · g a) (funext fun d=>funext fun c=>funext fun e=>funext fun b=>funext fun f=>(Ak ..).trans (jx N F d c a N e b f)):_)
def wq (args:List AV) (h:Am) (k:KF R):O R :=
 match args,h with
 | [(.pagg g a)],[]=>(UC N g a (GK k))
 | _,_=>none
theorem Ae3:Aq N 117 @wq:=by
 intro R Q args h k j;unfold wq;split
 exact A2 (Ae2 ..) (Ae2 ..) trivial
 exact A5
def Ae4:=A4 (Ae3 N)
theorem Azs:A1 Tryz.prog 117 (Ae4 N):=A6 (Ae3 N) follows
def pk (r0:Int→Int→O R) (a:LA) (b:Bool):O R :=
 (cond (Nat.ble 22 (a.length)) (Ok N (a.take 22) b (fun c=>(cond (!c) (r0 0 0) (Ao .i64 (a.drop 11) fun d=>(Ao .i64 (a.drop 15) fun e=>(Ao .i64 (a.drop 10) fun f=>(r0 (Ig (Ig d (wrap .i64 (e+1))) 1) (Ig f 1)))))))) none)
def CW:=(Ah (fun (N:Nat) (a:LA) (b:Bool) (r0:Int→Int→O R)=>(pk N r0 a b))).1
theorem d7 (a b r0):(@CW R N a b r0)=(pk N r0 a b):=by rw[CW,(Ah _).2]
def Azt:Hints:={ H:=hL }
def A44:Ek:=[(48,Ti N)]
def Ae5 (F:KF R):Int→Int→O R:=(fun g i=>F (.tup [(.int .i64 g),(.int .i64 i)]) [])
theorem Ae6 (a:LA) (b:Bool) (F:KF R):Cn (A44 N) Azt N 136 [(.pagg a b)] [] F=(CW N a b (Ae5 F)):=by
 rw[d7]
 kernel_rfl
def ws (args:List AV) (h:Am) (k:KF R):O R :=
 match args,h with
 | [(.pagg a b)],[]=>(CW N a b (Ae5 k))
 | _,_=>none
theorem Ae7:Aq N 136 @ws:=by
 intro R Q args h k j;unfold ws;split
 exact A2 (Ae6 ..) (Ae6 ..) ⟨Yt N,trivial⟩
 exact A5
def UD:=A4 (Ae7 N)
theorem m8:A1 Tryz.prog 136 (UD N):=A6 (Ae7 N) follows
def KU (r0:LA→O R) (a:LA) (b:Bool):O R :=
 (cond (Nat.ble 22 (a.length)) (Ok N (a.take 22) b (fun e=>(cond (!e) (r0 [(.int .i64 0),(.int .i64 0)]) (cond (Nat.ble 22 (a.length)) (CW N (a.take 22) b (fun f g=>(Ao .i64 (a.drop 19) fun c=>(Ao .i64 (a.drop 20) fun d=>(cond (c==0) (r0 [(.int .i64 c),(.int .i64 (Bv d f))]) (cond (c==2) (r0 [(.int .i64 c),(.int .i64 (Bv d g))]) (r0 [(.int .i64 c),(.int .i64 d)]))))))) none)))) none)
def Sn:=(Ah (fun (N:Nat) (a:LA) (b:Bool) (r0:LA→O R)=>(KU N r0 a b))).1
theorem GL (a b r0):(@Sn R N a b r0)=(KU N r0 a b):=by rw[Sn,(Ah _).2]
def Aj0:Hints:={ H:=hL,modes:=[(3,0)] }
def Aqn:Ek:=[(48,Ti N),(136,UD N)]
def jy (F:KF R):LA→O R:=(fun i=>F (.pagg i false) [])
theorem jz (a:LA) (b:Bool) (F:KF R):Cn (Aqn N) Aj0 N 84 [(.pagg a b)] [] F=(Sn N a b (jy F)):=by
 rw[GL]
 kernel_rfl
def d8 (args:List AV) (h:Am) (k:KF R):O R :=
 match args,h with
 | [(.pagg a b)],[]=>(Sn N a b (jy k))
 | _,_=>none
theorem kA:Aq N 84 @d8:=by
 intro R Q args h k j;unfold d8;split
 exact A2 (jz ..) (jz ..) ⟨Yt N,m8 N,trivial⟩
 exact A5
def kC:=A4 (kA N)
theorem Aj1:A1 Tryz.prog 84 (kC N):=A6 (kA N) follows
def GM (N:Nat) (r0:Int→O R) (e f:Int) (c:Bool) (b:LA) (d:Bool) (a:LA) (i:Bool):O R :=
 (cond i (Ao .i64 (a.drop 1) fun l=>(r0 (wrap .i64 ((wrap .i64 (e+l)) - 1)))) (Ao .i64 a fun m=>(cond ((m==2)==true) (Ao .i64 (a.drop 1) fun n=>(cond (cond true (decide (n≤f)) false) (Ao .i64 (b.drop 12) fun o=>(Ao .i64 (a.drop 1) fun p=>(r0 (wrap .i64 ((wrap .i64 ((wrap .i64 (e+o))+p)) - 1))))) (r0 (-1)))) (r0 (-1)))))
def AA (N:Nat) (r0:Int→O R) (e f:Int) (c:Bool) (b:LA) (d:Bool) (a:LA) (q2:Bool→O R) (g:Bool):O R :=
 (cond g (Ao .i64 (a.drop 1) fun q=>(r0 (wrap .i64 (q - 1)))) (Ao .i64 a fun r=>(cond ((r==1)==true) (Ao .i64 (a.drop 1) fun s=>(Ao .i64 (b.drop 12) fun t=>(q2 (cond true (decide (s≤t)) false)))) (q2 false))))
def GN (r0:Int→O R) (e f:Int) (c:Bool) (b:LA) (d:Bool) (a:LA) (g:Bool):O R:=(AA N r0 e f c b d a (fun i=>(GM N r0 e f c b d a i)) g)
def Rv (r0:Int→O R) (c:Bool) (b:LA) (d:Bool) (a:LA) (q1:Int→Int→Bool→O R):O R :=
 (cond (Nat.ble 22 (b.length)) (CW N (b.take 22) c (fun e f=>(Ao .i64 a fun u=>(cond ((u==0)==true) (Ao .i64 (a.drop 1) fun v=>(q1 e f (cond true (decide (v≤e)) false))) (q1 e f false))))) none)
def Oo (r0:Int→O R) (c:Bool) (b:LA) (d:Bool) (a:LA):O R:=(Rv N r0 c b d a (fun e f g=>(GN N r0 e f c b d a g)))
def Ul (r0:Int→O R) (q0:O R) (b:LA) (c:Bool) (a:LA) (d:Bool):O R :=
 (cond (Nat.ble 22 (b.length)) (Ok N (b.take 22) c (fun w=>(cond ((!w)==false) (Ao .i64 (a.drop 1) fun x=>(cond (cond false true (decide (x<1))) (r0 (-1)) q0)) (r0 (-1))))) none)
def Lg:=(Ah (fun (N:Nat) (b:LA) (c:Bool) (a:LA) (d:Bool) (r0:Int→O R)=>(Ul N r0 (Oo N r0 c b d a) b c a d))).1
theorem AB (b c a d r0):(@Lg R N b c a d r0)=(Ul N r0 (Oo N r0 c b d a) b c a d):=by rw[Lg,(Ah _).2]
def d9:Hints:={ H:=(hS hL (hJ [2,3] hL (hS hL (hS (hS (hJ [2,3,5,6,20] hL (hS hL (hJ [2,3,5,6,33] hL hL))) hL) hL)))) }
def kD:Ek:=[(48,Ti N),(136,UD N)]
def GO (F:KF R):=Kk Tryz.f167 d9 (kD N) [] N F
def Ga (F:KF R):Int→O R:=(fun y=>F (.int .i64 y) [])
def Ae8 (e f:Int) (c:Bool) (b:LA) (d:Bool) (a:LA) (i:Bool):St:=⟨[(2,(.optr 300000 0)),(3,(.optr 300001 0)),(5,(.int .i64 e)),(6,(.int .i64 f)),(33,(.bool i))],[(300000,(bP c 0 b)),(300001,(bP d 0 a))]⟩
def Ae9 (F:KF R):=GO N F [1,1,1,0,0,1,1,1] []
def Afa (e f:Int) (c:Bool) (b:LA) (d:Bool) (a:LA) (g:Bool):St:=⟨[(2,(.optr 300000 0)),(3,(.optr 300001 0)),(5,(.int .i64 e)),(6,(.int .i64 f)),(20,(.bool g))],[(300000,(bP c 0 b)),(300001,(bP d 0 a))]⟩
def Afb (F:KF R):=GO N F [1,1,1,0,0,1] []
def Afc (c:Bool) (b:LA) (d:Bool) (a:LA):St:=⟨[(2,(.optr 300000 0)),(3,(.optr 300001 0))],[(300000,(bP c 0 b)),(300001,(bP d 0 a))]⟩
def Afd (F:KF R):=GO N F [1,1] []
theorem pm (F:KF R) (e f:Int) (c:Bool) (b:LA) (d:Bool) (a:LA):∀ (i:Bool),Bb (Ae9 N F) (Ae8 e f c b d a i)=(GM N (Ga F) e f c b d a i):=by
 intro i
 kernel_rfl
theorem pn (F:KF R) (e f:Int) (c:Bool) (b:LA) (d:Bool) (a:LA):∀ (g:Bool),Bb (Afb N F) (Afa e f c b d a g)=(GN N (Ga F) e f c b d a g):=by
 intro g
 exact Eq.trans (by kernel_rfl) (Bs (AA N (Ga F) e f c b d a · g) (funext fun i=>(As ..).trans (pm N F e f c b d a i)):_)
theorem po (F:KF R) (c:Bool) (b:LA) (d:Bool) (a:LA):Bb (Afd N F) (Afc c b d a)=(Oo N (Ga F) c b d a):=by
 exact Eq.trans (by kernel_rfl) (Bs (Rv N (Ga F) c b d a ·) (funext fun e=>funext fun f=>funext fun g=>(As ..).trans (pn N F e f c b d a g)):_)
theorem d_ (b:LA) (c:Bool) (a:LA) (d:Bool) (F:KF R):Cn (kD N) d9 N 167 [(.pagg b c),(.pagg a d)] [] F=(Lg N b c a d (Ga F)):=by
 rw[AB]
 exact Eq.trans (by kernel_rfl) (Bs (Ul N (Ga F) · b c a d) ((As ..).trans (po N F c b d a)):_)
def XQ (args:List AV) (h:Am) (k:KF R):O R :=
 match args,h with
 | [(.pagg b c),(.pagg a d)],[]=>(Lg N b c a d (Ga k))
 | _,_=>none
theorem dp:Aq N 167 @XQ:=by
 intro R Q args h k j;unfold XQ;split
 exact A2 (d_ ..) (d_ ..) ⟨Yt N,m8 N,trivial⟩
 exact A5
def dq:=A4 (dp N)
theorem Afe:A1 Tryz.prog 167 (dq N):=A6 (dp N) follows
def UE (N:Nat) (r0:LA→Nat→O R) (c:Bool) (b:LA) (d:Bool) (a:LA) (f:Bool) (e:LA):O R :=
 (cond f (r0 (List.take 4 ((e.take 2)++[(.int .i64 1),(.int .i64 1)])) 2) (Ao .i64 (a.drop 1) fun n=>(Ao .i64 (b.drop 11) fun o=>(cond (decide (n≥o)) (r0 (List.take 4 ((e.take 2)++[(.int .i64 2),(.int .i64 1)])) 2) (r0 (e.take 2) 1)))))
def dt (r0:LA→Nat→O R) (q0:Bool→LA→O R) (b:LA) (c:Bool) (a:LA) (d:Bool):O R :=
 (cond (Nat.ble 22 (b.length)) (cond (Nat.ble 2 (a.length)) (cond ((!d)||(Bd (a.take 2))) (Lg N (b.take 22) c (a.take 2) false (fun p=>(cond (decide (p<0)) (r0 [] 0) (cond (Nat.ble 22 (b.length)) (CW N (b.take 22) c (fun i l=>(Ao .i64 a fun g=>(cond (g==0) (Ao .i64 (a.drop 1) fun m=>(Ao .i64 (a.drop 1) fun q=>(Ao .i64 (b.drop 11) fun r=>(cond ((decide (q≥r))==true) (Ao .i64 (b.drop 12) fun s=>(q0 (cond true (decide (s>0)) false) [(.int .i64 0),(.int .i64 (Bv (wrap .i64 (m+1)) i))])) (q0 false [(.int .i64 0),(.int .i64 (Bv (wrap .i64 (m+1)) i))]))))) (cond (g==1) (Ao .i64 (a.drop 1) fun t=>(Ao .i64 (b.drop 12) fun u=>(cond (decide (t<u)) (Ao .i64 (a.drop 1) fun v=>(r0 [(.int .i64 1),(.int .i64 (wrap .i64 (v+1)))] 1)) (r0 [(.int .i64 2),(.int .i64 1)] 1)))) (cond (g==2) (Ao .i64 (a.drop 1) fun w=>(Ao .i64 (b.drop 10) fun x=>(cond (decide (w≥x)) (Ao .i64 (a.drop 1) fun y=>(r0 [(.int .i64 0),(.int .i64 1),(.int .i64 2),(.int .i64 (Bv (wrap .i64 (y+1)) l))] 2)) (Ao .i64 (a.drop 1) fun z=>(r0 [(.int .i64 2),(.int .i64 (Bv (wrap .i64 (z+1)) l))] 1))))) (r0 [] 0))))))) none)))) none) none) none)
def Xn:=(Ah (fun (N:Nat) (b:LA) (c:Bool) (a:LA) (d:Bool) (r0:LA→Nat→O R)=>(dt N r0 (fun f e=>(UE N r0 c b d a f e)) b c a d))).1
theorem du (b c a d r0):(@Xn R N b c a d r0)=(dt N r0 (fun f e=>(UE N r0 c b d a f e)) b c a d):=by rw[Xn,(Ah _).2]
def Aff:Hints:={ H:=(hS hL (hS hL (hS hL (hS hL (hS (hS hL (hS (hS hL (hS (hS hL (hJ [2,3,7,39] hL hL)) hL)) hL)) hL))))),nils:=[(4,2),(7,2)],modes:=[(1,2)] }
def And:Ek:=[(167,dq N),(136,UD N)]
def Azu (F:KF R):=Kk Tryz.f118 Aff (And N) [] N F
def UF (F:KF R):LA→Nat→O R:=(fun aa ab=>F (.imm aa ab 2 false false) [])
def Azv (c:Bool) (b:LA) (d:Bool) (a:LA) (f:Bool) (e:LA):St:=⟨[(2,(.optr 300000 0)),(3,(.optr 300001 0)),(7,(.own 300002 0 1)),(39,(.bool f))],[(300000,(bP c 0 b)),(300001,(bP d 0 a)),(300002,(bQ 2 e))]⟩
def Azw (F:KF R):=Azu N F [1,1,1,1,0,1,0,1,0,1,1] []
theorem Aj2 (F:KF R) (c:Bool) (b:LA) (d:Bool) (a:LA):∀ (f:Bool) (e:LA),Bb (Azw N F) (Azv c b d a f e)=(UE N (UF F) c b d a f e):=by
 intro f e
 kernel_rfl
theorem Afg (b:LA) (c:Bool) (a:LA) (d:Bool) (F:KF R):Cn (And N) Aff N 118 [(.pagg b c),(.pagg a d)] [] F=(Xn N b c a d (UF F)):=by
 rw[du]
 exact Eq.trans (by kernel_rfl) (Bs (dt N (UF F) · b c a d) (funext fun f=>funext fun e=>(As ..).trans (Aj2 N F c b d a f e)):_)
def wt (args:List AV) (h:Am) (k:KF R):O R :=
 match args,h with
 | [(.pagg b c),(.pagg a d)],[]=>(Xn N b c a d (UF k))
 | _,_=>none
theorem Afh:Aq N 118 @wt:=by
 intro R Q args h k j;unfold wt;split
 exact A2 (Afg ..) (Afg ..) ⟨Afe N,m8 N,trivial⟩
 exact A5
def Afi:=A4 (Afh N)
theorem Azx:A1 Tryz.prog 118 (Afi N):=A6 (Afh N) follows
end
end Gx

namespace Gx
open Go Go.Proofs
open IntKind (wrap)
set_option maxRecDepth 100000
noncomputable section
variable {R:Type} (N:Nat)
def wu (N:Nat) (r0:Bool→O R) (b:LA) (c:Bool) (a:Int):O R :=
 (Ao .i64 b fun d=>(r0 (d==a)))
def Ju:=(Ah (fun (N:Nat) (b:LA) (c:Bool) (a:Int) (r0:Bool→O R)=>(wu N r0 b c a))).1
theorem GP (b c a r0):(@Ju R N b c a r0)=(wu N r0 b c a):=by rw[Ju,(Ah _).2]
def Aj3:Hints:={ H:=hL }
def kE (a:Int) (F:KF R):Bool→O R:=(fun e=>F (.bool e) [(100000,⟨false,false,false,false,0,[(.int .i64 a)],false⟩)])
theorem kF (b:LA) (c:Bool) (a:Int) (F:KF R):Cn [] Aj3 N 120 [(.pagg b c),(.optr 100000 0)] [(100000,⟨false,false,false,false,0,[(.int .i64 a)],false⟩)] F=(Ju N b c a (kE a F)):=by
 rw[GP]
 kernel_rfl
def dv (args:List AV) (h:Am) (k:KF R):O R :=
 match args,h with
 | [(.pagg b c),(.optr 100000 0)],[(100000,⟨false,false,false,false,0,[(.int .i64 a)],false⟩)]=>(Ju N b c a (kE a k))
 | _,_=>none
theorem kG:Aq N 120 @dv:=by
 intro R Q args h k j;unfold dv;split
 exact A2 (kF ..) (kF ..) trivial
 exact A5
def kH:=A4 (kG N)
theorem Aj4:A1 Tryz.prog 120 (kH N):=A6 (kG N) follows
def Bf (r0:Int→O R) (b:LA) (c:Nat) (e d:Bool) (a:Int) (k0:Int→Int→O R) (g f:Int):O R :=
 (cond (decide (f<g)) (cond (Ad f c) (cond (Nat.ble 2 ((b.drop ((f.toNat)*2)).length)) (cond ((!d)||(Bd ((b.drop ((f.toNat)*2)).take 2))) (Ju N ((b.drop ((f.toNat)*2)).take 2) false a (fun i=>(cond i (r0 f) (k0 g (wrap .i64 (f+1)))))) none) none) none) (r0 (-1)))
def Ay (r0:Int→O R) (b:LA) (c:Nat) (e d:Bool) (a:Int):Nat→Int→Int→O R
 | 0,_,_=>none
 | n+1,g,f=>(Bf N r0 b c e d a (Ay r0 b c e d a n) g f)
def Bk (N:Nat) (r0:Int→O R) (q0:Int→Int→O R) (b:LA) (c:Nat) (e d:Bool) (a:Int):O R :=
 (q0 ((c:Nat):Int) 0)
def An:=(Ah (fun (N:Nat) (b:LA) (c:Nat) (e d:Bool) (a:Int) (r0:Int→O R)=>(Bk N r0 (fun g f=>(Ay N r0 b c e d a N g f)) b c e d a))).1
theorem Bg (b c e d a r0):(@An R N b c e d a r0)=(Bk N r0 (fun g f=>(Ay N r0 b c e d a N g f)) b c e d a):=by rw[An,(Ah _).2]
def Dm:Hints:={ H:=(hS hL (hS (hS hL (hS (hP [0,1,7,8] hL) hL)) hL)) }
def Dw:Ek:=[(120,kH N)]
def Ik (F:KF R):=Kk Tryz.f119 Dm (Dw N) [100000] N F
def Ba (a:Int) (F:KF R):Int→O R:=(fun l=>F (.int .i64 l) [(100000,⟨false,false,false,false,0,[(.int .i64 a)],false⟩)])
def Il (b:LA) (c:Nat) (e d:Bool) (a g f:Int):St:=⟨[(0,(.imm b c 2 e d)),(1,(.fn 120 [(.optr 100000 0)])),(7,(.int .i64 g)),(8,(.int .i64 f))],[(100000,⟨false,false,false,false,0,[(.int .i64 a)],false⟩)]⟩
def Im (F:KF R):=Ik N F [1,0,1,0] []
theorem C6 (F:KF R) (b:LA) (c:Nat) (e d:Bool) (a:Int):∀ (n:Nat) (g f:Int),Ap (Im N F) n (Il b c e d a g f)=(Ay N (Ba a F) b c e d a n g f)
 | 0,_,_=>by kernel_rfl
 | n+1,g,f=>Eq.trans (by kernel_rfl) (Bs (Bf N (Ba a F) b c e d a · g f) (funext fun g=>funext fun f=>(C6 F b c e d a n g f)):_)
theorem Dn (b:LA) (c:Nat) (e d:Bool) (a:Int) (F:KF R):Cn (Dw N) Dm N 119 [(.imm b c 2 e d),(.fn 120 [(.optr 100000 0)])] [(100000,⟨false,false,false,false,0,[(.int .i64 a)],false⟩)] F=(An N b c e d a (Ba a F)):=by
 rw[Bg]
 exact Eq.trans (by kernel_rfl) (Bs (Bk N (Ba a F) · b c e d a) (funext fun g=>funext fun f=>(Ak ..).trans (C6 N F b c e d a N g f)):_)
def Dj (args:List AV) (h:Am) (k:KF R):O R :=
 match args,h with
 | [(.imm b c 2 e d),(.fn 120 [(.optr 100000 0)])],[(100000,⟨false,false,false,false,0,[(.int .i64 a)],false⟩)]=>(An N b c e d a (Ba a k))
 | _,_=>none
theorem Do:Aq N 119 @Dj:=by
 intro R Q args h k j;unfold Dj;split
 exact A2 (Dn ..) (Dn ..) ⟨Aj4 N,trivial⟩
 exact A5
def Dp:=A4 (Do N)
theorem In:A1 Tryz.prog 119 (Dp N):=A6 (Do N) follows
def KV (r0:Nat→Int→Int→LA→O R) (e:LA) (b:Nat) (f g c:Bool) (a p:LA) (k0:Nat→Int→Int→LA→LA→O R) (i:Nat) (m l:Int) (o d:LA):O R :=
 (cond (decide (l<m)) (cond (Ad l b) (Ao .i64 (e.drop ((l.toNat)*1)) fun t=>(cond (Nat.ble 22 (a.length)) (cond (Nat.ble 2 (d.length)) (Xn N (a.take 22) c (d.take 2) false (fun r s=>(An N r s false false t (fun q=>(cond ((decide (q<0))==false) (cond ((t != 0)==true) (cond (cond false true (cond true (nP p l) false)) (r0 0 l 16 []) (cond (Ad q s) (cond (Nat.ble 2 ((r.drop ((q.toNat)*2)).length)) (cond ((Nat.beq (((r.drop ((q.toNat)*2)).take 2).length) 2)&&((Nat.ble 2 (d.length))&&(!false))) (cond (Nat.ble 2 ((setCells d 0 ((r.drop ((q.toNat)*2)).take 2)).length)) (cond ((Nat.beq (((setCells d 0 ((r.drop ((q.toNat)*2)).take 2)).take 2).length) 2)&&(Nat.ble 2 2)) (cond ((Nat.ble (i+1) 140737488355328)&&(Nat.ble ((i+1)*16) 140737488355328)) (k0 (i+1) m (wrap .i64 (l+1)) ((o.take (i*2))++((setCells [(.int .i64 0),(.int .i64 0)] 0 ((setCells d 0 ((r.drop ((q.toNat)*2)).take 2)).take 2)).take 2)) (setCells d 0 ((r.drop ((q.toNat)*2)).take 2))) none) none) none) none) none) none)) (cond (Ad q s) (cond (Nat.ble 2 ((r.drop ((q.toNat)*2)).length)) (cond ((Nat.beq (((r.drop ((q.toNat)*2)).take 2).length) 2)&&((Nat.ble 2 (d.length))&&(!false))) (cond (Nat.ble 2 ((setCells d 0 ((r.drop ((q.toNat)*2)).take 2)).length)) (cond ((Nat.beq (((setCells d 0 ((r.drop ((q.toNat)*2)).take 2)).take 2).length) 2)&&(Nat.ble 2 2)) (cond ((Nat.ble (i+1) 140737488355328)&&(Nat.ble ((i+1)*16) 140737488355328)) (k0 (i+1) m (wrap .i64 (l+1)) ((o.take (i*2))++((setCells [(.int .i64 0),(.int .i64 0)] 0 ((setCells d 0 ((r.drop ((q.toNat)*2)).take 2)).take 2)).take 2)) (setCells d 0 ((r.drop ((q.toNat)*2)).take 2))) none) none) none) none) none) none)) (r0 0 l 16 [])))))) none) none)) none) (r0 i ((b:Nat):Int) 0 o))
def Oq (r0:Nat→Int→Int→LA→O R) (e:LA) (b:Nat) (f g c:Bool) (a p:LA):Nat→Nat→Int→Int→LA→LA→O R
 | 0,_,_,_,_,_=>none
 | n+1,i,m,l,o,d=>(KV N r0 e b f g c a p (Oq r0 e b f g c a p n) i m l o d)
def dw (r0:Nat→Int→Int→LA→O R) (q0:LA→Nat→Int→Int→LA→LA→O R) (a:LA) (c:Bool) (e:LA) (b:Nat) (f g:Bool):O R :=
 (cond (Nat.ble 22 (a.length)) (Ok N (a.take 22) c (fun v=>(cond (!v) (r0 0 0 1 []) (cond (Nat.ble 22 (a.length)) (UC N (a.take 22) c (fun p=>(cond ((decide ((0:Int)≤(0:Int)))&&((decide (0≤((b:Nat):Int)))&&((decide (((b:Nat):Int)≤140737488355328))&&(decide ((((b:Nat):Int)*((16:Nat):Int))≤140737488355328))))) (cond (Nat.ble 22 (a.length)) (Sn N (a.take 22) c (fun u=>(cond ((Nat.beq (u.length) 2)&&((Nat.ble 2 2)&&(!false))) (q0 p 0 ((b:Nat):Int) 0 [] (setCells [(.int .i64 0),(.int .i64 0)] 0 u)) none))) none) none))) none)))) none)
def UG:=(Ah (fun (N:Nat) (a:LA) (c:Bool) (e:LA) (b:Nat) (f g:Bool) (r0:Nat→Int→Int→LA→O R)=>(dw N r0 (fun p i m l o d=>(Oq N r0 e b f g c a p N i m l o d)) a c e b f g))).1
theorem dx (a c e b f g r0):(@UG R N a c e b f g r0)=(dw N r0 (fun p i m l o d=>(Oq N r0 e b f g c a p N i m l o d)) a c e b f g):=by rw[UG,(Ah _).2]
def Afj:Hints:={ H:=(hS hL (hS hL (hS hL (hS hL (hS hL (hS (hS hL (hS (hP [1,2,7,8,9,24,25,26] hL) hL)) hL)))))),nils:=[(4,2)],modes:=[(2,2),(0,0),(0,0)] }
def Ane:Ek:=[(48,Ti N),(117,Ae4 N),(84,kC N),(118,Afi N),(119,Dp N)]
def Azy (F:KF R):=Kk Tryz.f64 Afj (Ane N) [] N F
def GQ (F:KF R):Nat→Int→Int→LA→O R:=(fun w x y z=>F (.tup [(.own 300000 0 w),(.int .i64 x),(.int .i64 y)]) [(300000,(bQ 2 z))])
def Azz (e:LA) (b:Nat) (f g c:Bool) (a p:LA) (i:Nat) (m l:Int) (o d:LA):St:=⟨[(1,(.imm e b 1 f g)),(2,(.optr 300000 0)),(7,(.omap 300001)),(8,(.own 300002 0 i)),(9,(.optr 300003 0)),(24,(.imm e b 1 f g)),(25,(.int .i64 m)),(26,(.int .i64 l))],[(300000,(bP c 0 a)),(300001,⟨false,false,true,false,0,p,true⟩),(300002,(bQ 2 o)),(300003,(bQ 0 d))]⟩
def Az0 (F:KF R):=Azy N F [1,1,1,1,1,0,1,0] []
theorem kI (F:KF R) (e:LA) (b:Nat) (f g c:Bool) (a p:LA):∀ (n i:Nat) (m l:Int) (o d:LA),Ap (Az0 N F) n (Azz e b f g c a p i m l o d)=(Oq N (GQ F) e b f g c a p n i m l o d)
 | 0,_,_,_,_,_=>by kernel_rfl
 | n+1,i,m,l,o,d=>Eq.trans (by kernel_rfl) (Bs (KV N (GQ F) e b f g c a p · i m l o d) (funext fun i=>funext fun m=>funext fun l=>funext fun o=>funext fun d=>(kI F e b f g c a p n i m l o d)):_)
theorem Afk (a:LA) (c:Bool) (e:LA) (b:Nat) (f g:Bool) (F:KF R):Cn (Ane N) Afj N 64 [(.pagg a c),(.imm e b 1 f g)] [] F=(UG N a c e b f g (GQ F)):=by
 rw[dx]
 exact Eq.trans (by kernel_rfl) (Bs (dw N (GQ F) · a c e b f g) (funext fun p=>funext fun i=>funext fun m=>funext fun l=>funext fun o=>funext fun d=>(Ak ..).trans (kI N F e b f g c a p N i m l o d)):_)
def wv (args:List AV) (h:Am) (k:KF R):O R :=
 match args,h with
 | [(.pagg a c),(.imm e b 1 f g)],[]=>(UG N a c e b f g (GQ k))
 | _,_=>none
theorem Afl:Aq N 64 @wv:=by
 intro R Q args h k j;unfold wv;split
 exact A2 (Afk ..) (Afk ..) ⟨Yt N,Azs N,Aj1 N,Azx N,In N,trivial⟩
 exact A5
def Afm:=A4 (Afl N)
theorem Az1:A1 Tryz.prog 64 (Afm N):=A6 (Afl N) follows
def Rg (N:Nat) (k0:Nat→Bool→Int→LA→LA→O R) (r0:Nat→LA→O R) (d:LA) (e:Nat) (g i:Bool) (f:Nat) (b:Int) (l:Bool) (a c m:LA) (o:Int) (r:Bool) (s:Int) (t:Bool):O R :=
 (cond t (Ao .i64 (a.drop 2) fun u=>(Ao .i64 m fun v=>(Ao .i64 (a.drop 7) fun w=>(Ao .i64 (a.drop 3) fun x=>(Ao .i64 (m.drop 1) fun y=>(Ao .i64 (a.drop 6) fun z=>(cond (Ad o f) (cond ((Nat.beq 2 2)&&((Nat.ble ((0+((o.toNat)*2))+2) (c.length))&&(!false))) (cond (Ad o f) (cond (Nat.ble 2 (((Cr c (0+((o.toNat)*2)) [(.int .i64 (Ig u (wrap .i64 (v - w)))),(.int .i64 (Bv x (wrap .i64 (y+z))))]).drop (0+((o.toNat)*2))).length)) (cond ((Nat.beq ((((Cr c (0+((o.toNat)*2)) [(.int .i64 (Ig u (wrap .i64 (v - w)))),(.int .i64 (Bv x (wrap .i64 (y+z))))]).drop (0+((o.toNat)*2))).take 2).length) 2)&&((Nat.ble 2 (m.length))&&(!false))) (k0 f r (wrap .i64 (s+1)) (Cr c (0+((o.toNat)*2)) [(.int .i64 (Ig u (wrap .i64 (v - w)))),(.int .i64 (Bv x (wrap .i64 (y+z))))]) (setCells m 0 (((Cr c (0+((o.toNat)*2)) [(.int .i64 (Ig u (wrap .i64 (v - w)))),(.int .i64 (Bv x (wrap .i64 (y+z))))]).drop (0+((o.toNat)*2))).take 2))) none) none) none) none) none))))))) (cond r (Ao .i64 (a.drop 2) fun aa=>(Ao .i64 (a.drop 8) fun ab=>(cond (Ad o f) (cond ((Nat.beq 2 2)&&((Nat.ble ((0+((o.toNat)*2))+2) (c.length))&&(!false))) (cond (Ad o f) (cond (Nat.ble 2 (((Cr c (0+((o.toNat)*2)) [(.int .i64 aa),(.int .i64 ab)]).drop (0+((o.toNat)*2))).length)) (cond ((Nat.beq ((((Cr c (0+((o.toNat)*2)) [(.int .i64 aa),(.int .i64 ab)]).drop (0+((o.toNat)*2))).take 2).length) 2)&&((Nat.ble 2 (m.length))&&(!false))) (k0 f r (wrap .i64 (s+1)) (Cr c (0+((o.toNat)*2)) [(.int .i64 aa),(.int .i64 ab)]) (setCells m 0 (((Cr c (0+((o.toNat)*2)) [(.int .i64 aa),(.int .i64 ab)]).drop (0+((o.toNat)*2))).take 2))) none) none) none) none) none))) (cond (Ad o f) (cond (Nat.ble 2 ((c.drop (0+((o.toNat)*2))).length)) (cond ((Nat.beq (((c.drop (0+((o.toNat)*2))).take 2).length) 2)&&((Nat.ble 2 (m.length))&&(!false))) (k0 f r (wrap .i64 (s+1)) c (setCells m 0 ((c.drop (0+((o.toNat)*2))).take 2))) none) none) none)))
def Um (N:Nat) (r0:Nat→LA→O R) (d:LA) (e:Nat) (g i:Bool) (b:Int) (l:Bool) (a:LA) (k0:Nat→Bool→Int→LA→LA→O R) (q1:Int→Bool→Int→Bool→O R) (f:Nat) (q:Bool) (p:Int) (c m:LA):O R :=
 (cond (decide (p<b)) (cond (Ad p e) (Ao .i64 (d.drop ((p.toNat)*1)) fun ac=>(cond ((ac==2)==true) (q1 p (ac==2) p (cond true q false)) (q1 p (ac==2) p false))) none) (r0 f c))
def Fz (r0:Nat→LA→O R) (d:LA) (e:Nat) (g i:Bool) (b:Int) (l:Bool) (a:LA):Nat→Nat→Bool→Int→LA→LA→O R
 | 0,_,_,_,_,_=>none
 | n+1,f,q,p,c,m=>(Um N r0 d e g i b l a (Fz r0 d e g i b l a n) (fun o r s t=>(Rg N (Fz r0 d e g i b l a n) r0 d e g i f b l a c m o r s t)) f q p c m)
def KW (N:Nat) (r0:Nat→LA→O R) (q0:Nat→Bool→Int→LA→LA→O R) (a:LA) (l:Bool) (b:Int) (d:LA) (e:Nat) (g i:Bool):O R :=
 (cond ((decide (0≤b))&&((decide (b≤b))&&((decide (b≤140737488355328))&&(decide ((b*((16:Nat):Int))≤140737488355328))))) (Ao .i64 (a.drop 19) fun ad=>(Ao .i64 (a.drop 21) fun ae=>(Ao .i64 (a.drop 21) fun af=>(q0 (b.toNat) (ad==2) 0 (List.flatten (List.replicate (b.toNat) ([(.int .i64 0),(.int .i64 0)]:LA))) [(.int .i64 ae),(.int .i64 af)])))) none)
def So:=(Ah (fun (N:Nat) (a:LA) (l:Bool) (b:Int) (d:LA) (e:Nat) (g i:Bool) (r0:Nat→LA→O R)=>(KW N r0 (fun f q p c m=>(Fz N r0 d e g i b l a N f q p c m)) a l b d e g i))).1
theorem GR (a l b d e g i r0):(@So R N a l b d e g i r0)=(KW N r0 (fun f q p c m=>(Fz N r0 d e g i b l a N f q p c m)) a l b d e g i):=by rw[So,(Ah _).2]
def kJ:Hints:={ H:=(hS hL (hS hL (hS hL (hS (hS hL (hS (hP [2,3,7,8,9,22,23] (hS hL (hS hL (hS (hS (hS hL (hS hL (hS (hJ [2,3,7,9,10,11,22,23,34] hL hL) hL))) hL) hL)))) hL)) hL)))),nils:=[(6,2)],modes:=[(2,2)] }
def kK (F:KF R):=Kk Tryz.f65 kJ [] [] N F
def Jv (F:KF R):Nat→LA→O R:=(fun ag ah=>F (.own 300000 0 ag) [(300000,(bQ 2 ah))])
def Aj5 (d:LA) (e:Nat) (g i:Bool) (f:Nat) (b:Int) (l:Bool) (a c m:LA) (o:Int) (r:Bool) (s:Int) (t:Bool):St:=⟨[(2,(.imm d e 1 g i)),(3,(.optr 300000 0)),(7,(.own 300001 0 f)),(9,(.optr 300002 0)),(10,(.int .i64 o)),(11,(.bool r)),(22,(.int .i64 b)),(23,(.int .i64 s)),(34,(.bool t))],[(300000,(bP l 0 a)),(300001,(bQ 2 c)),(300002,(bQ 0 m))]⟩
def Aj6 (F:KF R) (Q0:St→O R):=kK N F [1,1,1,0,1,0,0,1,1,0,0,1,1,0,1] [Q0]
def kL (d:LA) (e:Nat) (g i:Bool) (b:Int) (l:Bool) (a:LA) (f:Nat) (q:Bool) (p:Int) (c m:LA):St:=⟨[(2,(.imm d e 1 g i)),(3,(.optr 300000 0)),(7,(.own 300001 0 f)),(8,(.bool q)),(9,(.optr 300002 0)),(22,(.int .i64 b)),(23,(.int .i64 p))],[(300000,(bP l 0 a)),(300001,(bQ 2 c)),(300002,(bQ 0 m))]⟩
def kM (F:KF R):=kK N F [1,1,1,0,1,0] []
theorem sx (Q0:St→O R) (F:KF R) (d:LA) (e:Nat) (g i:Bool) (f:Nat) (b:Int) (l:Bool) (a c m:LA):∀ (o:Int) (r:Bool) (s:Int) (t:Bool),Bb (Aj6 N F Q0) (Aj5 d e g i f b l a c m o r s t)=(Rg N (fun f q p c m=>Q0 (kL d e g i b l a f q p c m)) (Jv F) d e g i f b l a c m o r s t):=by
 intro o r s t
 kernel_rfl
theorem PV (F:KF R) (d:LA) (e:Nat) (g i:Bool) (b:Int) (l:Bool) (a:LA):∀ (n f:Nat) (q:Bool) (p:Int) (c m:LA),Ap (kM N F) n (kL d e g i b l a f q p c m)=(Fz N (Jv F) d e g i b l a n f q p c m)
 | 0,_,_,_,_,_=>by kernel_rfl
 | n+1,f,q,p,c,m=>have e0:=(funext fun f=>funext fun q=>funext fun p=>funext fun c=>funext fun m=>(PV F d e g i b l a n f q p c m))
  Eq.trans (by kernel_rfl) (bJ (Um N (Jv F) d e g i b l a · · f q p c m) e0 (funext fun o=>funext fun r=>funext fun s=>funext fun t=>(As ..).trans ((sx N (Ap (kM N F) n) F d e g i f b l a c m o r s t).trans (Bs (Rg N · (Jv F) d e g i f b l a c m o r s t) e0))):_)
theorem kN (a:LA) (l:Bool) (b:Int) (d:LA) (e:Nat) (g i:Bool) (F:KF R):Cn [] kJ N 65 [(.pagg a l),(.int .i64 b),(.imm d e 1 g i)] [] F=(So N a l b d e g i (Jv F)):=by
 rw[GR]
 exact Eq.trans (by kernel_rfl) (Bs (KW N (Jv F) · a l b d e g i) (funext fun f=>funext fun q=>funext fun p=>funext fun c=>funext fun m=>(Ak ..).trans (PV N F d e g i b l a N f q p c m)):_)
def dy (args:List AV) (h:Am) (k:KF R):O R :=
 match args,h with
 | [(.pagg a l),(.int .i64 b),(.imm d e 1 g i)],[]=>(So N a l b d e g i (Jv k))
 | _,_=>none
theorem kO:Aq N 65 @dy:=by
 intro R Q args h k j;unfold dy;split
 exact A2 (kN ..) (kN ..) trivial
 exact A5
def kP:=A4 (kO N)
theorem Aj7:A1 Tryz.prog 65 (kP N):=A6 (kO N) follows
def Rw (N:Nat) (r0:LA→O R) (c:Nat) (e:LA) (f:Nat) (g i l:Bool) (d:LA) (k0:Int→LA→O R) (a:Int) (b:LA):O R :=
 (cond (decide (a≥0)) (cond (Ad a f) (Ao .i64 (e.drop ((a.toNat)*1)) fun o=>(cond (o != 2) (k0 (wrap .i64 (a - 1)) b) (cond (Ad a c) (cond (Nat.ble 2 ((b.drop (0+((a.toNat)*2))).length)) (cond (Ad (wrap .i64 (a+1)) c) (cond (Nat.ble 2 ((b.drop (0+(((wrap .i64 (a+1)).toNat)*2))).length)) (cond ((Nat.beq (((b.drop (0+((a.toNat)*2))).take 2).length) 2)&&((Nat.ble 2 2)&&(!false))) (cond ((Nat.beq (((b.drop (0+(((wrap .i64 (a+1)).toNat)*2))).take 2).length) 2)&&((Nat.ble 2 2)&&(!false))) (cond (Ad (wrap .i64 (a+1)) f) (Ao .i64 (e.drop (((wrap .i64 (a+1)).toNat)*1)) fun p=>(cond (p != 2) (Ao .i64 (setCells [(.int .i64 0),(.int .i64 0)] 0 ((b.drop (0+((a.toNat)*2))).take 2)) fun q=>(Ao .i64 ((setCells [(.int .i64 0),(.int .i64 0)] 0 ((b.drop (0+((a.toNat)*2))).take 2)).drop 1) fun r=>(Ao .i64 (d.drop 9) fun s=>(cond (Ad a c) (cond ((Nat.beq 2 2)&&((Nat.ble ((0+((a.toNat)*2))+2) (b.length))&&(!false))) (k0 (wrap .i64 (a - 1)) (Cr b (0+((a.toNat)*2)) [(.int .i64 q),(.int .i64 (Bv r s))])) none) none)))) (Ao .i64 (setCells [(.int .i64 0),(.int .i64 0)] 0 ((b.drop (0+((a.toNat)*2))).take 2)) fun t=>(Ao .i64 (setCells [(.int .i64 0),(.int .i64 0)] 0 ((b.drop (0+(((wrap .i64 (a+1)).toNat)*2))).take 2)) fun u=>(Ao .i64 (d.drop 6) fun v=>(Ao .i64 ((setCells [(.int .i64 0),(.int .i64 0)] 0 ((b.drop (0+((a.toNat)*2))).take 2)).drop 1) fun w=>(Ao .i64 ((setCells [(.int .i64 0),(.int .i64 0)] 0 ((b.drop (0+(((wrap .i64 (a+1)).toNat)*2))).take 2)).drop 1) fun x=>(Ao .i64 (d.drop 7) fun y=>(cond (Ad a c) (cond ((Nat.beq 2 2)&&((Nat.ble ((0+((a.toNat)*2))+2) (b.length))&&(!false))) (k0 (wrap .i64 (a - 1)) (Cr b (0+((a.toNat)*2)) [(.int .i64 (Ig t (wrap .i64 (u - v)))),(.int .i64 (Bv w (wrap .i64 (x+y))))])) none) none))))))))) none) none) none) none) none) none) none))) none) (r0 b))
def Hx (r0:LA→O R) (c:Nat) (e:LA) (f:Nat) (g i l:Bool) (d:LA):Nat→Int→LA→O R
 | 0,_,_=>none
 | n+1,a,b=>(Rw N r0 c e f g i l d (Hx r0 c e f g i l d n) a b)
def CX (N:Nat) (r0:LA→O R) (q0:Int→LA→O R) (d:LA) (l:Bool) (c:Nat) (e:LA) (f:Nat) (g i:Bool) (m:LA):O R :=
 (q0 (wrap .i64 (((c:Nat):Int) - 2)) m)
def Ot:=(Ah (fun (N:Nat) (d:LA) (l:Bool) (c:Nat) (e:LA) (f:Nat) (g i:Bool) (m:LA) (r0:LA→O R)=>(CX N r0 (fun a b=>(Hx N r0 c e f g i l d N a b)) d l c e f g i m))).1
theorem AC (d l c e f g i m r0):(@Ot R N d l c e f g i m r0)=(CX N r0 (fun a b=>(Hx N r0 c e f g i l d N a b)) d l c e f g i m):=by rw[Ot,(Ah _).2]
def dz:Hints:={ H:=(hS hL (hS hL (hS (hP [1,2,3,6] hL) hL))) }
def Afn (F:KF R):=Kk Tryz.f66 dz [] [100000] N F
def Ou (F:KF R):LA→O R:=(fun z=>F (.tup []) [(100000,(bQ 2 z))])
def Afo (c:Nat) (e:LA) (f:Nat) (g i l:Bool) (d:LA) (a:Int) (b:LA):St:=⟨[(1,(.own 100000 0 c)),(2,(.imm e f 1 g i)),(3,(.optr 300000 0)),(6,(.int .i64 a))],[(100000,(bQ 2 b)),(300000,(bP l 0 d))]⟩
def Afp (F:KF R):=Afn N F [1,1,0] []
theorem KX (F:KF R) (c:Nat) (e:LA) (f:Nat) (g i l:Bool) (d:LA):∀ (n:Nat) (a:Int) (b:LA),Ap (Afp N F) n (Afo c e f g i l d a b)=(Hx N (Ou F) c e f g i l d n a b)
 | 0,_,_=>by kernel_rfl
 | n+1,a,b=>Eq.trans (by kernel_rfl) (Bs (Rw N (Ou F) c e f g i l d · a b) (funext fun a=>funext fun b=>(KX F c e f g i l d n a b)):_)
theorem eA (d:LA) (l:Bool) (c:Nat) (e:LA) (f:Nat) (g i:Bool) (m:LA) (F:KF R):Cn [] dz N 66 [(.pagg d l),(.own 100000 0 c),(.imm e f 1 g i)] [(100000,(bQ 2 m))] F=(Ot N d l c e f g i m (Ou F)):=by
 rw[AC]
 exact Eq.trans (by kernel_rfl) (Bs (CX N (Ou F) · d l c e f g i m) (funext fun a=>funext fun b=>(Ak ..).trans (KX N F c e f g i l d N a b)):_)
def XR (args:List AV) (h:Am) (k:KF R):O R :=
 match args,h with
 | [(.pagg d l),(.own 100000 0 c),(.imm e f 1 g i)],[(100000,⟨false,false,true,false,2,m,false⟩)]=>(Ot N d l c e f g i m (Ou k))
 | _,_=>none
theorem eB:Aq N 66 @XR:=by
 intro R Q args h k j;unfold XR;split
 exact A2 (eA ..) (eA ..) trivial
 exact A5
def eC:=A4 (eB N)
theorem Afq:A1 Tryz.prog 66 (eC N):=A6 (eB N) follows
def Rx (N:Nat) (r0:Nat→Int→LA→O R) (b:LA) (a:Nat) (d c:Bool) (m:Nat) (k1:Int→Int→LA→O R) (o f:Int) (l:LA):O R :=
 (cond (decide (f<o)) (cond (Ad f m) (cond (Nat.ble 2 ((l.drop (0+((f.toNat)*2))).length)) (cond ((Nat.beq (((l.drop (0+((f.toNat)*2))).take 2).length) 2)&&((Nat.ble 2 2)&&(!false))) (Ao .i64 (setCells [(.int .i64 0),(.int .i64 0)] 0 ((l.drop (0+((f.toNat)*2))).take 2)) fun p=>(Ao .i64 ((setCells [(.int .i64 0),(.int .i64 0)] 0 ((l.drop (0+((f.toNat)*2))).take 2)).drop 1) fun q=>(cond (decide (p>q)) (r0 0 7 []) (cond (Ad f a) (Ao .i64 (b.drop ((f.toNat)*1)) fun r=>(cond (r != 2) (cond (Ad f m) (cond ((Nat.beq 2 2)&&((Nat.ble ((0+((f.toNat)*2))+2) (l.length))&&(!false))) (k1 o (wrap .i64 (f+1)) (Cr l (0+((f.toNat)*2)) [(.int .i64 0),(.int .i64 0)])) none) none) (k1 o (wrap .i64 (f+1)) l))) none)))) none) none) none) (r0 m 0 l))
def Ku (r0:Nat→Int→LA→O R) (b:LA) (a:Nat) (d c:Bool) (m:Nat):Nat→Int→Int→LA→O R
 | 0,_,_,_=>none
 | n+1,o,f,l=>(Rx N r0 b a d c m (Ku r0 b a d c m n) o f l)
def Ry (r0:Nat→Int→LA→O R) (i:Int) (b:LA) (a:Nat) (d c g:Bool) (e:LA) (q1:Nat→Int→Int→LA→O R):O R :=
 (cond (Nat.ble 22 (e.length)) (So N (e.take 22) g i b a false c (fun m s=>(cond (Nat.ble 22 (e.length)) (Ot N (e.take 22) g m b a false c s (fun t=>(q1 m ((m:Nat):Int) 0 t))) none))) none)
def Kv (r0:Nat→Int→LA→O R) (i:Int) (b:LA) (a:Nat) (d c g:Bool) (e:LA):O R:=(Ry N r0 i b a d c g e (fun m o f l=>(Ku N r0 b a d c m N o f l)))
def Un (r0:Nat→Int→LA→O R) (q0:O R) (e:LA) (g:Bool) (i:Int) (b:LA) (a:Nat) (d c:Bool):O R :=
 (cond (Nat.ble 22 (e.length)) (Yx N (e.take 22) g i (fun u=>(cond (!u) (r0 0 1 []) (cond (((a:Nat):Int) != i) (r0 0 4 []) (cond (Nat.ble 22 (e.length)) (UG N (e.take 22) g b a false c (fun ad ae v af=>(cond (v != 0) (r0 0 16 []) (Ao .i64 (e.drop 19) fun w=>(cond ((w==2)==true) (cond (Ad 0 a) (Ao .i64 b fun x=>(cond ((cond true (x != 2) false)==true) (Ao .i64 (e.drop 21) fun y=>(Ao .i64 (e.drop 9) fun z=>(cond (cond true (decide (y>z)) false) (r0 0 7 []) q0))) q0)) none) q0))))) none))))) none)
def Hc:=(Ah (fun (N:Nat) (e:LA) (g:Bool) (i:Int) (b:LA) (a:Nat) (d c:Bool) (r0:Nat→Int→LA→O R)=>(Un N r0 (Kv N r0 i b a d c g e) e g i b a d c))).1
theorem AD (e g i b a d c r0):(@Hc R N e g i b a d c r0)=(Un N r0 (Kv N r0 i b a d c g e) e g i b a d c):=by rw[Hc,(Ah _).2]
def eD:Hints:={ H:=(hS hL (hS hL (hS hL (hS hL (hJ [1,2,3] hL (hS hL (hS hL (hS (hS hL (hS (hP [2,11,55,56,57] hL) hL)) hL)))))))),nils:=[(6,2)],modes:=[(2,2),(0,0)] }
def kQ:Ek:=[(16,KJ N),(64,Afm N),(65,kP N),(66,eC N)]
def eE (F:KF R):=Kk Tryz.f29 eD (kQ N) [] N F
def Hy (F:KF R):Nat→Int→LA→O R:=(fun aa ab ac=>F (.tup [(.own 300000 0 aa),(.int .i64 ab)]) [(300000,(bQ 2 ac))])
def Afr (b:LA) (a:Nat) (d c:Bool) (m:Nat) (o f:Int) (l:LA):St:=⟨[(2,(.imm b a 1 d c)),(11,(.own 300000 0 m)),(55,(.own 300000 0 m)),(56,(.int .i64 o)),(57,(.int .i64 f))],[(300000,(bQ 2 l))]⟩
def Afs (F:KF R):=eE N F [1,1,1,1,1,1,1,0,1,0] []
def Aft (i:Int) (b:LA) (a:Nat) (d c g:Bool) (e:LA):St:=⟨[(1,(.int .i64 i)),(2,(.imm b a 1 d c)),(3,(.optr 300000 0))],[(300000,(bP g 0 e))]⟩
def Afu (F:KF R):=eE N F [1,1,1,1,1] []
theorem KY (F:KF R) (b:LA) (a:Nat) (d c:Bool) (m:Nat):∀ (n:Nat) (o f:Int) (l:LA),Ap (Afs N F) n (Afr b a d c m o f l)=(Ku N (Hy F) b a d c m n o f l)
 | 0,_,_,_=>by kernel_rfl
 | n+1,o,f,l=>Eq.trans (by kernel_rfl) (Bs (Rx N (Hy F) b a d c m · o f l) (funext fun o=>funext fun f=>funext fun l=>(KY F b a d c m n o f l)):_)
theorem pp (F:KF R) (i:Int) (b:LA) (a:Nat) (d c g:Bool) (e:LA):Bb (Afu N F) (Aft i b a d c g e)=(Kv N (Hy F) i b a d c g e):=by
 exact Eq.trans (by kernel_rfl) (Bs (Ry N (Hy F) i b a d c g e ·) (funext fun m=>funext fun o=>funext fun f=>funext fun l=>(Ak ..).trans (KY N F b a d c m N o f l)):_)
theorem eF (e:LA) (g:Bool) (i:Int) (b:LA) (a:Nat) (d c:Bool) (F:KF R):Cn (kQ N) eD N 29 [(.pagg e g),(.int .i64 i),(.imm b a 1 d c)] [] F=(Hc N e g i b a d c (Hy F)):=by
 rw[AD]
 exact Eq.trans (by kernel_rfl) (Bs (Un N (Hy F) · e g i b a d c) ((As ..).trans (pp N F i b a d c g e)):_)
def XS (args:List AV) (h:Am) (k:KF R):O R :=
 match args,h with
 | [(.pagg e g),(.int .i64 i),(.imm b a 1 d c)],[]=>(Hc N e g i b a d c (Hy k))
 | _,_=>none
theorem eG:Aq N 29 @XS:=by
 intro R Q args h k j;unfold XS;split
 exact A2 (eF ..) (eF ..) ⟨dT N,Az1 N,Aj7 N,Afq N,trivial⟩
 exact A5
def GS:=A4 (eG N)
theorem eH:A1 Tryz.prog 29 (GS N):=A6 (eG N) follows
def UH (r0:Bool→O R):O R :=
 (Nd N (fun b=>(cond ((Nat.beq 0 0)&&((Nat.beq (b.length) 22)&&(Nat.beq 22 22))) (cond (Nat.ble 22 (b.length)) (Eb N 35 (fun g=>(Kt N (b.take 22) false g false (fun c i=>(cond ((Nat.beq 0 0)&&((Nat.beq (c.length) 3)&&(Nat.beq 3 3))) (cond (Nat.ble 22 (b.length)) (Eb N 30 (fun l=>(Tn N (b.take 22) false l false (fun d e m n=>(cond ((Nat.beq 0 0)&&((Nat.beq (d.length) 3)&&(Nat.beq 3 3))) (cond ((Nat.beq 0 0)&&((Nat.beq (e.length) 3)&&(Nat.beq 3 3))) (cond (Nat.ble 22 (b.length)) (Hc N (b.take 22) false 3 [(.int .i64 2),(.int .i64 2),(.int .i64 0)] 3 false true (fun f o a=>(cond (Nat.ble 3 (c.length)) (Eb N 85 (fun p=>(I9 N (c.take 3) false p false (fun q=>(cond ((q==0)==true) (cond ((cond true (i==0) false)==true) (cond (Nat.ble 3 (d.length)) (Eb N 3 (fun r=>(I9 N (d.take 3) false r false (fun s=>(cond ((cond true (s==0) false)==true) (cond (Nat.ble 3 (e.length)) (Eb N 5 (fun t=>(I9 N (e.take 3) false t false (fun u=>(cond ((cond true (u==0) false)==true) (cond ((cond true m false)==true) (cond ((cond true n false)==true) (cond ((cond true (o==0) false)==true) (cond ((cond true (((f:Nat):Int)==3) false)==true) (cond (Ad 0 f) (cond (Nat.ble 2 (a.length)) (cond ((Nat.ble 1 2)&&((Nat.beq ((a.take 2).length) 2)&&((Nat.beq 2 2)&&(true&&(!false))))) (Ao .i64 (a.take 2) fun v=>(Ao .i64 ((a.take 2).drop 1) fun w=>(cond ((cond true ((v==10)&&((w==17)&&true)) false)==true) (cond (Ad 1 f) (cond (Nat.ble 2 ((a.drop 2).length)) (cond ((Nat.ble 1 2)&&((Nat.beq (((a.drop 2).take 2).length) 2)&&((Nat.beq 2 2)&&(true&&(!false))))) (Ao .i64 ((a.drop 2).take 2) fun x=>(Ao .i64 (((a.drop 2).take 2).drop 1) fun y=>(r0 (cond true ((x==10)&&((y==15)&&true)) false)))) none) none) none) (r0 false)))) none) none) none) (r0 false)) (r0 false)) (r0 false)) (r0 false)) (r0 false)))))) none) (r0 false)))))) none) (r0 false)) (r0 false)))))) none))) none) none) none))))) none) none))))) none) none)))
def Jb:=(Ah (fun (N:Nat) (r0:Bool→O R)=>(UH N r0))).1
theorem XT (r0):(@Jb R N r0)=(UH N r0):=by rw[Jb,(Ah _).2]
def Afv:Hints:={ H:=hL }
def Aj8:Ek:=[(46,OU N),(20,E_ N),(21,KR N),(23,dZ N),(29,GS N),(25,dR N)]
def eI (F:KF R):Bool→O R:=(fun z=>F (.bool z) [])
theorem eJ (F:KF R):Cn (Aj8 N) Afv N 15 [] [] F=(Jb N (eI F)):=by
 rw[XT]
 kernel_rfl
def XU (args:List AV) (h:Am) (k:KF R):O R :=
 match args,h with
 | [],[]=>(Jb N (eI k))
 | _,_=>none
theorem eK:Aq N 15 @XU:=by
 intro R Q args h k j;unfold XU;split
 exact A2 (eJ ..) (eJ ..) ⟨sZ N,cE N,pg N,Ae0 N,eH N,Aes N,trivial⟩
 exact A5
def eL:=A4 (eK N)
theorem Afw:A1 Tryz.prog 15 (eL N):=A6 (eK N) follows
def Aqo (N:Nat) (r0:Bool→O R) (a b c:Int):O R :=
 (cond ((decide (a≥b))==true) (r0 (cond true (decide (a≤c)) false)) (r0 false))
def Jw:=(Ah (fun (N:Nat) (a b c:Int) (r0:Bool→O R)=>(Aqo N r0 a b c))).1
theorem Afx (a b c r0):(@Jw R N a b c r0)=(Aqo N r0 a b c):=by rw[Jw,(Ah _).2]
def A45:Hints:={ H:=hL }
def Anf (F:KF R):Bool→O R:=(fun d=>F (.bool d) [])
theorem Ang (a b c:Int) (F:KF R):Cn [] A45 N 51 [(.int .i64 a),(.int .i64 b),(.int .i64 c)] [] F=(Jw N a b c (Anf F)):=by
 rw[Afx]
 kernel_rfl
def Afy (args:List AV) (h:Am) (k:KF R):O R :=
 match args,h with
 | [(.int .i64 a),(.int .i64 b),(.int .i64 c)],[]=>(Jw N a b c (Anf k))
 | _,_=>none
theorem Anh:Aq N 51 @Afy:=by
 intro R Q args h k j;unfold Afy;split
 exact A2 (Ang ..) (Ang ..) trivial
 exact A5
def sy:=A4 (Anh N)
theorem Ani:A1 Tryz.prog 51 (sy N):=A6 (Anh N) follows
end
end Gx

namespace Gx
open Go Go.Proofs
inductive Sl (α:Type) where
 | nil
 | of (l:List α) (t o:Bool)
def Sl.l {α:Type}:Sl α→List α
 | .nil=>[]
 | .of l _ _=>l
def Sl.av {α:Type} (sz:Nat) (e:α→List AV):Sl α→AV
 | .nil=>.nsl
 | .of l t o=>.imm (l.flatMap e) l.length sz t o
def AE (n:Int):List AV:=[.int .i64 n]
def Av (l:List Int):List AV:=l.map fun n=>.int .i64 n
theorem Ee:∀ l:List Int,l.flatMap AE=Av l
 | []=>rfl
 | a::r=>by rw[List.flatMap_cons,Ee r];rfl
theorem Ef (l:List Int):(Av l).length=l.length:=by simp[Av]
structure SegD where
 width:Int
 price:Int
structure UnitD where
 name:List UInt8
 bus:Int
 min:Int
 max:Int
 segs:Sl SegD
 noLoad:Int
 rampUp:Int
 rampDown:Int
 startRamp:Int
 stopRamp:Int
 upTime:Int
 downTime:Int
 startTime:Int
 hotCost:Int
 coldCost:Int
 hotHours:Int
 reserve:Int
 reservePrice:Int
 away:Sl Int
 state:Int
 hours:Int
 output:Int
def SegD.av (s:SegD):List AV:=[.int .i64 s.width,.int .i64 s.price]
def UnitD.av (u:UnitD):List AV:=[.str u.name,.int .i64 u.bus,.int .i64 u.min,.int .i64 u.max,u.segs.av 2 SegD.av,.int .i64 u.noLoad,.int .i64 u.rampUp,.int .i64 u.rampDown,.int .i64 u.startRamp,.int .i64 u.stopRamp,.int .i64 u.upTime,.int .i64 u.downTime,.int .i64 u.startTime,.int .i64 u.hotCost,.int .i64 u.coldCost,.int .i64 u.hotHours,.int .i64 u.reserve,.int .i64 u.reservePrice,u.away.av 1 AE,.int .i64 u.state,.int .i64 u.hours,.int .i64 u.output]
section
variable {R:Type}
theorem Hz {α:Type} {sz:Nat} {e:α→List AV} {s:Sl α} {r:List AV} {f:List AV→Nat→Option R}:Ct sz (s.av sz e::r) f=f (s.l.flatMap e) s.l.length:=by
 cases s<;>simp[Ct,Sl.av,Sl.l,A24]
theorem Bn {α:Type} {e:α→List AV} {sz:Nat} (k:∀ a,(e a).length=sz):∀ (l:List α) (j:Nat) (h:j<l.length),List.drop (j*sz) (l.flatMap e)=e l[j]++(l.drop (j+1)).flatMap e
 | a::r,0,_=>by simp
 | a::r,j+1,h=>by
  have:=Bn k r j (by simpa using h)
  rw[List.flatMap_cons,List.drop_append,k,show(j+1)*sz - sz=j*sz by rw[Nat.add_mul];omega,List.drop_eq_nil_of_le (by rw[k,Nat.add_mul];omega)]
  simpa using this
theorem PW {l:List Int} {i:Nat} (h:i<l.length) {f:Int→Option R}:Ao .i64 (List.drop i (Av l)) f=f l[i]:=by
 rw[Av,List.drop_eq_getElem_cons (by simpa using h)];simp[Az]
theorem C3 {l:List Int} {i:Nat} (h:i<l.length) {f:Int→Option R}:Ao .i64 (List.drop ((Int.toNat (i:Int))*1) (Av l)) f=f l[i]:=by
 rw[Int.toNat_natCast,Nat.mul_one,PW h]
theorem Eg {α:Type} {l:List α} {j:Nat} (h:j<l.length):l.drop j=l[j]::l.drop (j+1):=List.drop_eq_getElem_cons h
theorem Fw {α:Type} {l:List α} {j:Nat} (h:l.length≤j):l.drop j=[]:=List.drop_eq_nil_of_le h
theorem cK {α:Type} (K:α→Option R) (c:Bool) (a b:α):cond c (K a) (K b)=K (cond c a b):=by cases c<;>rfl
theorem Cg (u:UnitD):List.take 22 u.av=u.av:=rfl
theorem D8 (u:UnitD):Nat.ble 22 (List.length u.av)=true:=rfl
theorem u2 {u:UnitD} {f:Int→Option R}:Ao .i64 (List.drop 2 u.av) f=f u.min:=Az
theorem u3 {u:UnitD} {f:Int→Option R}:Ao .i64 (List.drop 3 u.av) f=f u.max:=Az
theorem u5 {u:UnitD} {f:Int→Option R}:Ao .i64 (List.drop 5 u.av) f=f u.noLoad:=Az
theorem u6 {u:UnitD} {f:Int→Option R}:Ao .i64 (List.drop 6 u.av) f=f u.rampUp:=Az
theorem u7 {u:UnitD} {f:Int→Option R}:Ao .i64 (List.drop 7 u.av) f=f u.rampDown:=Az
theorem u8 {u:UnitD} {f:Int→Option R}:Ao .i64 (List.drop 8 u.av) f=f u.startRamp:=Az
theorem u9 {u:UnitD} {f:Int→Option R}:Ao .i64 (List.drop 9 u.av) f=f u.stopRamp:=Az
theorem Bb8 {u:UnitD} {f:Int→Option R}:Ao .i64 (List.drop 10 u.av) f=f u.upTime:=Az
theorem Ba6 {u:UnitD} {f:Int→Option R}:Ao .i64 (List.drop 11 u.av) f=f u.downTime:=Az
theorem Bac {u:UnitD} {f:Int→Option R}:Ao .i64 (List.drop 12 u.av) f=f u.startTime:=Az
theorem Bdm {u:UnitD} {f:Int→Option R}:Ao .i64 (List.drop 13 u.av) f=f u.hotCost:=Az
theorem Bdn {u:UnitD} {f:Int→Option R}:Ao .i64 (List.drop 14 u.av) f=f u.coldCost:=Az
theorem Bcw {u:UnitD} {f:Int→Option R}:Ao .i64 (List.drop 15 u.av) f=f u.hotHours:=Az
theorem Bc7 {u:UnitD} {f:Int→Option R}:Ao .i64 (List.drop 16 u.av) f=f u.reserve:=Az
theorem Bdo {u:UnitD} {f:Int→Option R}:Ao .i64 (List.drop 17 u.av) f=f u.reservePrice:=Az
theorem A46 {u:UnitD} {f:Int→Option R}:Ao .i64 (List.drop 19 u.av) f=f u.state:=Az
theorem Bcx {u:UnitD} {f:Int→Option R}:Ao .i64 (List.drop 20 u.av) f=f u.hours:=Az
theorem Bad {u:UnitD} {f:Int→Option R}:Ao .i64 (List.drop 21 u.av) f=f u.output:=Az
theorem u4 {u:UnitD} {f:List AV→Nat→Option R}:Ct 2 (List.drop 4 u.av) f=f (u.segs.l.flatMap SegD.av) u.segs.l.length:=Hz
theorem A8u {u:UnitD} {f:List AV→Nat→Option R}:Ct 1 (List.drop 18 u.av) f=f (Av u.away.l) u.away.l.length:=by rw[←Ee];exact Hz
def Ff (lo hi x:Int):Bool:=decide (lo≤x)&&decide (x≤hi)
theorem pq {N:Nat} {b c:Int} {e f:Bool} {K:Bool→Option R} (l:List Int) (hs:l.length≤1000000000000):∀ (m j fuel:Nat),j+m=l.length→m<fuel →
  Jq N K b c (Av l) l.length e f fuel (l.length:Int) (j:Int)=K ((l.drop j).all (Ff b c))
 | 0,j,fuel+1,k,_=>by
  rw[Jq];unfold Uc
  rw[Lb (by omega),cf,Fw (by omega),List.all_nil]
 | m+1,j,fuel+1,k,A=>by
  rw[Jq];unfold Uc
  have h:j<l.length:=by omega
  rw[Jp h,ct,Aa h,ct,C3 h,wS (by omega),pq l hs m (j+1) fuel (by omega) (by omega),Eg h,List.all_cons]
  simp only[cK];congr 1
  generalize (List.drop (j+1) l).all (Ff b c)=t
  rw[Bool.eq_iff_iff];cases t<;>simp[Ff]<;>omega
theorem CY {N:Nat} {b c:Int} {e f:Bool} {K:Bool→Option R} (l:List Int) (n:Nat) (hn:n=l.length) (hN:l.length<N) (hs:l.length≤1000000000000):Db N b c (Av l) n e f K=K (l.all (Ff b c)):=by
 subst hn
 rw[cX];unfold JT
 have:=pq (N:=N) (b:=b) (c:=c) (e:=e) (f:=f) (K:=K) l hs l.length 0 N (by omega) hN
 simpa using this
theorem g9 {N:Nat} {a b c:Int} {K:Bool→Option R}:Jw N a b c K=K (Ff b c a):=by
 rw[Afx];unfold Aqo
 simp only[cK];congr 1
 rw[Bool.eq_iff_iff];simp[Ff]
def C4 (u:UnitD):Bool:=Ff 0 24 u.upTime&&(Ff 0 24 u.downTime&&(Ff 0 24 u.startTime&&(Ff 0 24 u.hotHours&&((u.state==0||(u.state==1||u.state==2))&&(Ff 1 48 u.hours&&(!(u.state==1)||decide (u.hours≤u.startTime)))))))
theorem tA {N:Nat} {u:UnitD} {b:Bool} {K:Bool→Option R}:JU N K b u.av=K (Ff 1 48 u.hours&&(!(u.state==1)||decide (u.hours≤u.startTime))):=by
 unfold JU
 simp only[Bcx,A46,Bac,cK];congr 1
 rw[Bool.eq_iff_iff];simp[Ff];omega
theorem tB {N n:Nat} {u:UnitD} {d e f g:Int} {b:Bool} {K:Bool→Option R}:Tg N K d e f g b u.av (n+5) 0 =
  K (Ff 0 24 d&&(Ff 0 24 e&&(Ff 0 24 f&&(Ff 0 24 g&&((u.state==0||(u.state==1||u.state==2))&&(Ff 1 48 u.hours&&(!(u.state==1)||decide (u.hours≤u.startTime)))))))):=by
 have a1:IntKind.wrap .i64 ((0:Int)+1)=1:=by decide
 have a2:IntKind.wrap .i64 ((1:Int)+1)=2:=by decide
 have a3:IntKind.wrap .i64 ((2:Int)+1)=3:=by decide
 have a4:IntKind.wrap .i64 ((3:Int)+1)=4:=by decide
 simp only[Tg,TO,tA,a1,a2,a3,a4,A46]
 simp[Ad,cK];congr 1
 generalize (decide (u.hours≤u.startTime))=t
 generalize Ff 1 48 u.hours=s
 by_cases k:u.state=0<;>by_cases A:u.state=1<;>by_cases B:u.state=2<;>first | omega | skip
 all_goals (rw[Bool.eq_iff_iff];cases s<;>cases t<;>simp[Ff,k,A,B]<;>omega)
theorem Nh {N:Nat} {u:UnitD} {b:Bool} {K:Bool→Option R} (hN:64≤N):Ok N u.av b K=K (C4 u):=by
 rw[oi];unfold gQ
 obtain⟨n,rfl⟩:∃ n,N=n+5:=⟨N - 5,by omega⟩
 simp only[Bb8,Ba6,Bac,Bcw,tB];rfl
end
end Gx

namespace Gx
open Go Go.Proofs
open IntKind (wrap)
set_option maxRecDepth 100000
noncomputable section
variable {R:Type} (N:Nat)
def CZ (N:Nat) (r0:Bool→O R) (b:Bool) (a:LA):O R :=
 (Ao .i64 (a.drop 19) fun c=>(cond ((c != 0)==true) (Ao .i64 (a.drop 19) fun d=>(cond ((cond true (d != 1) false)==true) (Ao .i64 (a.drop 19) fun e=>(cond ((cond true (e != 2) false)==false) (Ao .i64 (a.drop 20) fun f=>(cond ((cond false true (decide (f<1)))==false) (Ao .i64 (a.drop 20) fun g=>(cond (cond false true (decide (g>48))) (r0 false) (Ao .i64 (a.drop 19) fun i=>(cond ((i != 1)==false) (Ao .i64 (a.drop 20) fun l=>(Ao .i64 (a.drop 12) fun m=>(r0 (cond false true (decide (l≤m)))))) (r0 true))))) (r0 false))) (r0 false))) (Ao .i64 (a.drop 20) fun n=>(cond ((cond false true (decide (n<1)))==false) (Ao .i64 (a.drop 20) fun o=>(cond (cond false true (decide (o>48))) (r0 false) (Ao .i64 (a.drop 19) fun p=>(cond ((p != 1)==false) (Ao .i64 (a.drop 20) fun q=>(Ao .i64 (a.drop 12) fun r=>(r0 (cond false true (decide (q≤r)))))) (r0 true))))) (r0 false))))) (Ao .i64 (a.drop 20) fun s=>(cond ((cond false true (decide (s<1)))==false) (Ao .i64 (a.drop 20) fun t=>(cond (cond false true (decide (t>48))) (r0 false) (Ao .i64 (a.drop 19) fun u=>(cond ((u != 1)==false) (Ao .i64 (a.drop 20) fun v=>(Ao .i64 (a.drop 12) fun w=>(r0 (cond false true (decide (v≤w)))))) (r0 true))))) (r0 false)))))
def UI (N:Nat) (r0:Bool→O R) (q0:O R) (a:LA) (b:Bool):O R :=
 (Ao .i64 (a.drop 10) fun x=>(cond ((decide (x<0))==false) (Ao .i64 (a.drop 10) fun y=>(cond ((cond false true (decide (y>24)))==false) (Ao .i64 (a.drop 11) fun z=>(cond ((cond false true (decide (z<0)))==false) (Ao .i64 (a.drop 11) fun aa=>(cond ((cond false true (decide (aa>24)))==false) (Ao .i64 (a.drop 12) fun ab=>(cond ((cond false true (decide (ab<0)))==false) (Ao .i64 (a.drop 12) fun ac=>(cond ((cond false true (decide (ac>24)))==false) (Ao .i64 (a.drop 15) fun ad=>(cond ((cond false true (decide (ad<0)))==false) (Ao .i64 (a.drop 15) fun ae=>(cond (cond false true (decide (ae>24))) (r0 false) q0)) (r0 false))) (r0 false))) (r0 false))) (r0 false))) (r0 false))) (r0 false))) (r0 false)))
def Kw:=(Ah (fun (N:Nat) (a:LA) (b:Bool) (r0:Bool→O R)=>(UI N r0 (CZ N r0 b a) a b))).1
theorem kR (a b r0):(@Kw R N a b r0)=(UI N r0 (CZ N r0 b a) a b):=by rw[Kw,(Ah _).2]
def pt:Hints:={ H:=(hS hL (hJ [1] hL hL)) }
def Aqp (F:KF R):=Kk Tryz.f52 pt [] [] N F
def C_ (F:KF R):Bool→O R:=(fun af=>F (.bool af) [])
def Aqq (b:Bool) (a:LA):St:=⟨[(1,(.optr 300000 0))],[(300000,(bP b 0 a))]⟩
def Aqr (F:KF R):=Aqp N F [1,1] []
theorem yq (F:KF R) (b:Bool) (a:LA):Bb (Aqr N F) (Aqq b a)=(CZ N (C_ F) b a):=by
 kernel_rfl
theorem pu (a:LA) (b:Bool) (F:KF R):Cn [] pt N 52 [(.pagg a b)] [] F=(Kw N a b (C_ F)):=by
 rw[kR]
 exact Eq.trans (by kernel_rfl) (Bs (UI N (C_ F) · a b) ((As ..).trans (yq N F b a)):_)
def kS (args:List AV) (h:Am) (k:KF R):O R :=
 match args,h with
 | [(.pagg a b)],[]=>(Kw N a b (C_ k))
 | _,_=>none
theorem pw:Aq N 52 @kS:=by
 intro R Q args h k j;unfold kS;split
 exact A2 (pu ..) (pu ..) trivial
 exact A5
def Lw:=A4 (pw N)
theorem P8:A1 Tryz.prog 52 (Lw N):=A6 (pw N) follows
def P9 (r0:Bool→O R) (c:Bool) (b:LA) (k0:Int→Int→O R) (d a:Int):O R :=
 (Ct 2 (b.drop 4) fun ab f=>(cond (decide (a<((f:Nat):Int))) (Ct 2 (b.drop 4) fun e g=>(cond (Ad a g) (cond (Nat.ble 2 ((e.drop ((a.toNat)*2)).length)) (cond ((!c)||(Bd ((e.drop ((a.toNat)*2)).take 2))) (cond ((Nat.beq (((e.drop ((a.toNat)*2)).take 2).length) 2)&&((Nat.ble 2 2)&&(!false))) (Ao .i64 (setCells [(.int .i64 0),(.int .i64 0)] 0 ((e.drop ((a.toNat)*2)).take 2)) fun i=>(Jw N i 1 1048576 (fun l=>(cond ((!l)==false) (Ao .i64 ((setCells [(.int .i64 0),(.int .i64 0)] 0 ((e.drop ((a.toNat)*2)).take 2)).drop 1) fun m=>(Jw N m (-1048576) 1048576 (fun o=>(cond ((cond false true (!o))==false) (cond ((decide (a>0))==true) (Ao .i64 ((setCells [(.int .i64 0),(.int .i64 0)] 0 ((e.drop ((a.toNat)*2)).take 2)).drop 1) fun p=>(Ct 2 (b.drop 4) fun q r=>(cond (Ad (wrap .i64 (a - 1)) r) (Ao .i64 ((q.drop (((wrap .i64 (a - 1)).toNat)*2)).drop 1) fun s=>(cond ((cond false true (cond true (decide (p<s)) false))==false) (Ao .i64 (setCells [(.int .i64 0),(.int .i64 0)] 0 ((e.drop ((a.toNat)*2)).take 2)) fun t=>(cond (cond false true (decide (t>d))) (r0 false) (Ao .i64 (setCells [(.int .i64 0),(.int .i64 0)] 0 ((e.drop ((a.toNat)*2)).take 2)) fun u=>(k0 (wrap .i64 (d - u)) (wrap .i64 (a+1)))))) (r0 false))) none))) (Ao .i64 (setCells [(.int .i64 0),(.int .i64 0)] 0 ((e.drop ((a.toNat)*2)).take 2)) fun v=>(cond (cond false true (decide (v>d))) (r0 false) (Ao .i64 (setCells [(.int .i64 0),(.int .i64 0)] 0 ((e.drop ((a.toNat)*2)).take 2)) fun w=>(k0 (wrap .i64 (d - w)) (wrap .i64 (a+1))))))) (r0 false))))) (r0 false))))) none) none) none) none)) (r0 (d==0))))
def Fc (r0:Bool→O R) (c:Bool) (b:LA):Nat→Int→Int→O R
 | 0,_,_=>none
 | n+1,d,a=>(P9 N r0 c b (Fc r0 c b n) d a)
def Xo (N:Nat) (r0:Bool→O R) (q0:Int→Int→O R) (b:LA) (c:Bool):O R :=
 (Ct 2 (b.drop 4) fun ac x=>(cond (decide (((x:Nat):Int)>8)) (r0 false) (Ao .i64 (b.drop 3) fun y=>(Ao .i64 (b.drop 2) fun z=>(q0 (wrap .i64 (y - z)) 0)))))
def Qa:=(Ah (fun (N:Nat) (b:LA) (c:Bool) (r0:Bool→O R)=>(Xo N r0 (fun d a=>(Fc N r0 c b N d a)) b c))).1
theorem PX (b c r0):(@Qa R N b c r0)=(Xo N r0 (fun d a=>(Fc N r0 c b N d a)) b c):=by rw[Qa,(Ah _).2]
def XV:Hints:={ H:=(hS hL (hS hL (hS hL (hS (hS hL (hS (hP [1,3,4] hL) hL)) hL)))) }
def eM:Ek:=[(51,sy N)]
def yr (F:KF R):=Kk Tryz.f53 XV (eM N) [] N F
def Mz (F:KF R):Bool→O R:=(fun aa=>F (.bool aa) [])
def yu (c:Bool) (b:LA) (d a:Int):St:=⟨[(1,(.optr 300000 0)),(3,(.int .i64 d)),(4,(.int .i64 a))],[(300000,(bP c 0 b))]⟩
def yv (F:KF R):=yr N F [1,1,1,0,1,0] []
theorem GT (F:KF R) (c:Bool) (b:LA):∀ (n:Nat) (d a:Int),Ap (yv N F) n (yu c b d a)=(Fc N (Mz F) c b n d a)
 | 0,_,_=>by kernel_rfl
 | n+1,d,a=>Eq.trans (by kernel_rfl) (Bs (P9 N (Mz F) c b · d a) (funext fun d=>funext fun a=>(GT F c b n d a)):_)
theorem XW (b:LA) (c:Bool) (F:KF R):Cn (eM N) XV N 53 [(.pagg b c)] [] F=(Qa N b c (Mz F)):=by
 rw[PX]
 exact Eq.trans (by kernel_rfl) (Bs (Xo N (Mz F) · b c) (funext fun d=>funext fun a=>(Ak ..).trans (GT N F c b N d a)):_)
def PY (args:List AV) (h:Am) (k:KF R):O R :=
 match args,h with
 | [(.pagg b c)],[]=>(Qa N b c (Mz k))
 | _,_=>none
theorem XX:Aq N 53 @PY:=by
 intro R Q args h k j;unfold PY;split
 exact A2 (XW ..) (XW ..) ⟨Ani N,trivial⟩
 exact A5
def XY:=A4 (XX N)
theorem yw:A1 Tryz.prog 53 (XY N):=A6 (XX N) follows
def Xp (r0:Bool→O R) (b:Int) (c:Bool) (a:LA) (k3:Int→O R) (d:Int):O R :=
 (Ct 1 (a.drop 18) fun bg e=>(cond (decide (d<((e:Nat):Int))) (Ct 1 (a.drop 18) fun f g=>(cond (Ad d g) (Ao .i64 (f.drop ((d.toNat)*1)) fun i=>(Jw N i 0 (wrap .i64 (b - 1)) (fun l=>(cond ((!l)==false) (cond ((decide (d>0))==true) (Ct 1 (a.drop 18) fun m o=>(cond (Ad d o) (Ao .i64 (m.drop ((d.toNat)*1)) fun p=>(Ct 1 (a.drop 18) fun q r=>(cond (Ad (wrap .i64 (d - 1)) r) (Ao .i64 (q.drop (((wrap .i64 (d - 1)).toNat)*1)) fun s=>(cond (cond false true (cond true (decide (p≤s)) false)) (r0 false) (k3 (wrap .i64 (d+1))))) none))) none)) (k3 (wrap .i64 (d+1)))) (r0 false))))) none)) (Ao .i64 (a.drop 19) fun t=>(cond (t==2) (Ao .i64 (a.drop 21) fun u=>(Ao .i64 (a.drop 2) fun v=>(Ao .i64 (a.drop 3) fun w=>(Jw N u v w (fun x=>(r0 x)))))) (Ao .i64 (a.drop 21) fun y=>(r0 (y==0)))))))
def Qb (r0:Bool→O R) (b:Int) (c:Bool) (a:LA):Nat→Int→O R
 | 0,_=>none
 | n+1,d=>(Xp N r0 b c a (Qb r0 b c a n) d)
def M_ (N:Nat) (r0:Bool→O R) (b:Int) (c:Bool) (a:LA) (q3:Int→O R):O R :=
 (q3 0)
def UJ (r0:Bool→O R) (b:Int) (c:Bool) (a:LA):O R:=(M_ N r0 b c a (fun d=>(Qb N r0 b c a N d)))
def M' (r0:Bool→O R) (b:Int) (c:Bool) (a:LA) (q2:O R):O R :=
 (Ao .i64 (a.drop 5) fun z=>(Jw N z 0 1048576 (fun aa=>(cond ((!aa)==false) (Ao .i64 (a.drop 13) fun ab=>(Jw N ab 0 1048576 (fun ac=>(cond ((cond false true (!ac))==false) (Ao .i64 (a.drop 14) fun ad=>(Jw N ad 0 1048576 (fun ae=>(cond ((cond false true (!ae))==false) (Ao .i64 (a.drop 17) fun af=>(Jw N af 0 1048576 (fun ag=>(cond (cond false true (!ag)) (r0 false) q2)))) (r0 false))))) (r0 false))))) (r0 false)))))
def UK (r0:Bool→O R) (b:Int) (c:Bool) (a:LA):O R:=(M' N r0 b c a (UJ N r0 b c a))
def NA (r0:Bool→O R) (b:Int) (c:Bool) (a:LA) (q1:O R):O R :=
 (Ao .i64 (a.drop 6) fun ah=>(Jw N ah 0 1048576 (fun ai=>(cond ((!ai)==false) (Ao .i64 (a.drop 7) fun aj=>(Jw N aj 0 1048576 (fun ak=>(cond ((cond false true (!ak))==false) (Ao .i64 (a.drop 16) fun al=>(Jw N al 0 1048576 (fun am=>(cond ((cond false true (!am))==false) (Ao .i64 (a.drop 8) fun an=>(Ao .i64 (a.drop 2) fun ao=>(Ao .i64 (a.drop 3) fun ap=>(Jw N an ao ap (fun aq=>(cond ((cond false true (!aq))==false) (Ao .i64 (a.drop 9) fun ar=>(Ao .i64 (a.drop 2) fun au=>(Ao .i64 (a.drop 3) fun av=>(Jw N ar au av (fun aw=>(cond (cond false true (!aw)) (r0 false) q1)))))) (r0 false))))))) (r0 false))))) (r0 false))))) (r0 false)))))
def DA (r0:Bool→O R) (b:Int) (c:Bool) (a:LA):O R:=(NA N r0 b c a (UK N r0 b c a))
def UL (r0:Bool→O R) (q0:O R) (a:LA) (c:Bool) (b:Int):O R :=
 (Jw N b 1 24 (fun ax=>(cond ((!ax)==false) (cond (Nat.ble 22 (a.length)) (Kw N (a.take 22) c (fun ay=>(cond ((cond false true (!ay))==false) (Ao .i64 (a.drop 2) fun az=>(Jw N az 0 1048576 (fun ba=>(cond ((cond false true (!ba))==false) (Ao .i64 (a.drop 3) fun bb=>(Ao .i64 (a.drop 2) fun bc=>(Jw N bb bc 1048576 (fun bd=>(cond ((cond false true (!bd))==false) (cond (Nat.ble 22 (a.length)) (Qa N (a.take 22) c (fun be=>(cond (cond false true (!be)) (r0 false) q0))) none) (r0 false)))))) (r0 false))))) (r0 false)))) none) (r0 false))))
def D_:=(Ah (fun (N:Nat) (a:LA) (c:Bool) (b:Int) (r0:Bool→O R)=>(UL N r0 (DA N r0 b c a) a c b))).1
theorem kT (a c b r0):(@D_ R N a c b r0)=(UL N r0 (DA N r0 b c a) a c b):=by rw[D_,(Ah _).2]
def pz:Hints:={ H:=(hS hL (hJ [1,2] hL (hJ [1,2] hL (hJ [1,2] hL (hS (hS hL (hS (hP [1,2,5] hL) hL)) hL))))) }
def ww:Ek:=[(51,sy N),(52,Lw N),(53,XY N)]
def DB (F:KF R):=Kk Tryz.f17 pz (ww N) [] N F
def Ex (F:KF R):Bool→O R:=(fun bf=>F (.bool bf) [])
def Aqs (b:Int) (c:Bool) (a:LA) (d:Int):St:=⟨[(1,(.int .i64 b)),(2,(.optr 300000 0)),(5,(.int .i64 d))],[(300000,(bP c 0 a))]⟩
def Aqt (F:KF R):=DB N F [1,1,1,1,0,1,0] []
def Aqu (b:Int) (c:Bool) (a:LA):St:=⟨[(1,(.int .i64 b)),(2,(.optr 300000 0))],[(300000,(bP c 0 a))]⟩
def Aqv (F:KF R):=DB N F [1,1,1,1] []
def Aqw (b:Int) (c:Bool) (a:LA):St:=⟨[(1,(.int .i64 b)),(2,(.optr 300000 0))],[(300000,(bP c 0 a))]⟩
def Aqx (F:KF R):=DB N F [1,1,1] []
def Aqy (b:Int) (c:Bool) (a:LA):St:=⟨[(1,(.int .i64 b)),(2,(.optr 300000 0))],[(300000,(bP c 0 a))]⟩
def Aqz (F:KF R):=DB N F [1,1] []
theorem XZ (F:KF R) (b:Int) (c:Bool) (a:LA):∀ (n:Nat) (d:Int),Ap (Aqt N F) n (Aqs b c a d)=(Qb N (Ex F) b c a n d)
 | 0,_=>by kernel_rfl
 | n+1,d=>Eq.trans (by kernel_rfl) (Bs (Xp N (Ex F) b c a · d) (funext fun d=>(XZ F b c a n d)):_)
theorem yx (F:KF R) (b:Int) (c:Bool) (a:LA):Bb (Aqv N F) (Aqu b c a)=(UJ N (Ex F) b c a):=by
 exact Eq.trans (by kernel_rfl) (Bs (M_ N (Ex F) b c a ·) (funext fun d=>(Ak ..).trans (XZ N F b c a N d)):_)
theorem yy (F:KF R) (b:Int) (c:Bool) (a:LA):Bb (Aqx N F) (Aqw b c a)=(UK N (Ex F) b c a):=by
 exact Eq.trans (by kernel_rfl) (Bs (M' N (Ex F) b c a ·) ((As ..).trans (yx N F b c a)):_)
theorem yz (F:KF R) (b:Int) (c:Bool) (a:LA):Bb (Aqz N F) (Aqy b c a)=(DA N (Ex F) b c a):=by
 exact Eq.trans (by kernel_rfl) (Bs (NA N (Ex F) b c a ·) ((As ..).trans (yy N F b c a)):_)
theorem qA (a:LA) (c:Bool) (b:Int) (F:KF R):Cn (ww N) pz N 17 [(.pagg a c),(.int .i64 b)] [] F=(D_ N a c b (Ex F)):=by
 rw[kT]
 exact Eq.trans (by kernel_rfl) (Bs (UL N (Ex F) · a c b) ((As ..).trans (yz N F b c a)):_)
def kU (args:List AV) (h:Am) (k:KF R):O R :=
 match args,h with
 | [(.pagg a c),(.int .i64 b)],[]=>(D_ N a c b (Ex k))
 | _,_=>none
theorem qB:Aq N 17 @kU:=by
 intro R Q args h k j;unfold kU;split
 exact A2 (qA ..) (qA ..) ⟨Ani N,P8 N,yw N,trivial⟩
 exact A5
def qC:=A4 (qB N)
theorem Aq0:A1 Tryz.prog 17 (qC N):=A6 (qB N) follows
end
end Gx

namespace Gx
open Go Go.Proofs
section
variable {R:Type}
theorem Kx {N:Nat} {u:UnitD} {b:Bool} {K:Bool→Option R}:Kw N u.av b K=K (C4 u):=by
 rw[kR];unfold UI CZ
 simp only[Bb8,Ba6,Bac,Bcw,A46,Bcx]
 simp[cK];congr 1
 unfold C4
 by_cases k:u.state=0<;>by_cases A:u.state=1<;>by_cases B:u.state=2<;>first | omega | skip
 all_goals (rw[Bool.eq_iff_iff];simp[Ff,k,A,B]<;>omega)
theorem Bcf {N:Nat} {b c x:Int} {e f:Bool} {K:Bool→Option R} (hN:64≤N):Db N b c [(.int .i64 x)] 1 e f K=K (Ff b c x):=by
 have:=CY (N:=N) (b:=b) (c:=c) (e:=e) (f:=f) (K:=K) [x] 1 rfl (by simp;omega) (by simp)
 simpa[Av] using this
theorem Bdw {N:Nat} {b c x y:Int} {e f:Bool} {K:Bool→Option R} (hN:64≤N):Db N b c [(.int .i64 x),(.int .i64 y)] 2 e f K=K (Ff b c x&&Ff b c y):=by
 have:=CY (N:=N) (b:=b) (c:=c) (e:=e) (f:=f) (K:=K) [x,y] 2 rfl (by simp;omega) (by simp)
 simpa[Av] using this
theorem Bdx {N:Nat} {b c x y z w:Int} {e f:Bool} {K:Bool→Option R} (hN:64≤N):Db N b c [(.int .i64 x),(.int .i64 y),(.int .i64 z),(.int .i64 w)] 4 e f K=K (Ff b c x&&(Ff b c y&&(Ff b c z&&Ff b c w))):=by
 have:=CY (N:=N) (b:=b) (c:=c) (e:=e) (f:=f) (K:=K) [x,y,z,w] 4 rfl (by simp;omega) (by simp)
 simpa[Av] using this
theorem Bdy {N:Nat} {b c x y z w v:Int} {e f:Bool} {K:Bool→Option R} (hN:64≤N):Db N b c [(.int .i64 x),(.int .i64 y),(.int .i64 z),(.int .i64 w),(.int .i64 v)] 5 e f K=K (Ff b c x&&(Ff b c y&&(Ff b c z&&(Ff b c w&&Ff b c v)))):=by
 have:=CY (N:=N) (b:=b) (c:=c) (e:=e) (f:=f) (K:=K) [x,y,z,w,v] 5 rfl (by simp;omega) (by simp)
 simpa[Av] using this
def Gh (p:Int):List SegD→Bool
 | []=>true
 | s::r=>Ff 1 1048576 s.width&&(Ff (-1048576) 1048576 s.price&&(decide (p≤s.price)&&Gh s.price r))
def aJ:List SegD→Int
 | []=>0
 | s::r=>s.width+aJ r
def wx (l:List SegD):Nat→Int
 | 0=>-1048576
 | j+1=>((l[j]?).map (·.price)).getD 0
theorem UM {l:List SegD} {j:Nat} (h:j<l.length):wx l (j+1)=l[j].price:=by simp[wx,h]
theorem tC {l:List SegD} {j:Nat} (h:j<l.length):List.drop ((Int.toNat (j:Int))*2) (l.flatMap SegD.av)=(.int .i64 l[j].width)::(.int .i64 l[j].price)::(l.drop (j+1)).flatMap SegD.av:=by
 rw[Int.toNat_natCast,Bn (e:=SegD.av) (sz:=2) (fun _=>rfl) _ _ h];rfl
theorem Afz {x y:Int} {f:Int→Option R}:Ao .i64 (setCells [(.int .i64 0),(.int .i64 0)] 0 [(.int .i64 x),(.int .i64 y)]) f=f x:=rfl
theorem g_ {x y:Int} {f:Int→Option R}:Ao .i64 (List.drop 1 (setCells [(.int .i64 0),(.int .i64 0)] 0 [(.int .i64 x),(.int .i64 y)])) f=f y:=rfl
theorem wy:∀ {l:List SegD} {p:Int},Gh p l=true→0≤aJ l
 | [],_,_=>by simp[aJ]
 | s::r,p,h=>by
  simp[Gh,Ff] at h
  have:=wy h.2.2.2
  simp[aJ];omega
theorem A15 {N:Nat} {u:UnitD} {b:Bool} {K:Bool→Option R} (hN:64≤N) (C:0≤u.min∧u.min≤1048576) (D:0≤u.max∧u.max≤1048576) (F:u.segs.l.length≤8):∀ (m j fuel:Nat) (g:Int),j+m=u.segs.l.length→m<fuel→(0≤g∧g≤1048576*(j:Int)) →
  Cy N K (u.segs.l.flatMap SegD.av) u.segs.l.length b u.av fuel g (u.segs.l.length:Int) (j:Int)=K (Gh (wx u.segs.l j) (u.segs.l.drop j)&&(g+aJ (u.segs.l.drop j)==u.max - u.min))
 | 0,j,fuel+1,g,G,_,_=>by
  rw[Cy];unfold I5
  rw[Lb (by omega),cf,u3,u2,i64 (by omega),Fw (l:=u.segs.l) (by omega)]
  simp[Gh,aJ]
 | m+1,j,fuel+1,g,G,M,O=>by
  rw[Cy];unfold I5
  have h:j<u.segs.l.length:=by omega
  rw[Jp h,ct,Aa h,ct,tC h]
  have p0:List.take 2 ((AV.int .i64 u.segs.l[j].width)::(AV.int .i64 u.segs.l[j].price)::(u.segs.l.drop (j+1)).flatMap SegD.av)=[(.int .i64 u.segs.l[j].width),(.int .i64 u.segs.l[j].price)]:=rfl
  rw[p0,show Nat.ble 2 (List.length ((AV.int .i64 u.segs.l[j].width)::(AV.int .i64 u.segs.l[j].price)::(u.segs.l.drop (j+1)).flatMap SegD.av))=true by simp,ct]
  rw[show((!b)||Bd [(AV.int .i64 u.segs.l[j].width),(.int .i64 u.segs.l[j].price)])=true by cases b<;>rfl,ct]
  rw[show((Nat.beq (List.length [(AV.int .i64 u.segs.l[j].width),(.int .i64 u.segs.l[j].price)]) 2)&&((Nat.ble 2 2)&&(!false)))=true from rfl,ct,Afz,g_,Bcf hN]
  simp only[Bcf hN]
  rw[Eg h,Gh,aJ]
  cases I:Ff 1 1048576 u.segs.l[j].width with
  | false=>simp
  | true =>
   cases B:Ff (-1048576) 1048576 u.segs.l[j].price with
   | false=>simp
   | true =>
    simp only[Ff,Bool.and_eq_true,decide_eq_true_eq] at I B
    have step:=A15 (b:=b) (K:=K) hN C D F m (j+1) fuel (g+u.segs.l[j].width) (by omega) (by omega) (by omega)
    rw[UM h] at step
    have e1:IntKind.wrap .i64 (g+u.segs.l[j].width)=g+u.segs.l[j].width:=i64 (by omega)
    have L:IntKind.wrap .i64 ((j:Int)+1)=((j+1:Nat):Int):=wS (by omega)
    unfold J8
    simp only[u4,g_,Afz,e1,L,step]
    rcases j with _ | j
    ·simp[wx,B.1,Int.add_assoc]
    ·have k:j<u.segs.l.length:=by omega
     rw[wP (by omega),Aa k,ct,tC k,Ay5,ct]
     rw[show ∀ r:List AV,List.drop 1 ((AV.int .i64 u.segs.l[j].width)::(AV.int .i64 u.segs.l[j].price)::r)=(AV.int .i64 u.segs.l[j].price)::r from fun _=>rfl,Az,UM k]
     simp only[Bool.not_true,beq_self_eq_true,cK,Int.add_assoc,Bool.true_and]
     simp only[cond_true,cond_false]
     congr 1
     by_cases A:u.segs.l[j+1].price<u.segs.l[j].price
     ·simp[A,show ¬ u.segs.l[j].price≤u.segs.l[j+1].price by omega]
     ·simp[A,show u.segs.l[j].price≤u.segs.l[j+1].price by omega]
def kV (u:UnitD):Bool:=decide (u.segs.l.length≤8)&&(Gh (-1048576) u.segs.l&&(aJ u.segs.l==u.max - u.min))
theorem A8v {N:Nat} {u:UnitD} {b:Bool} {K:Bool→Option R} (hN:64≤N) (A:0≤u.min∧u.min≤1048576) (B:0≤u.max∧u.max≤1048576):Fl N u.av b K=K (kV u):=by
 rw[Yu];unfold Ns
 rw[u4]
 by_cases k:u.segs.l.length≤8
 ·rw[show decide ((u.segs.l.length:Int)>8)=false by simp;omega,cf,u4]
  have:=A15 (b:=b) (K:=K) hN A B k u.segs.l.length 0 N 0 (by omega) (by omega) (by omega)
  simpa[kV,k,wx] using this
 ·rw[show decide ((u.segs.l.length:Int)>8)=true by simp;omega,ct]
  simp[kV,k]
end
end Gx

namespace Gx
open Go Go.Proofs
section
variable {R:Type}
theorem A16 {N:Nat} {u:UnitD} {b:Bool} {K:Bool→Option R} (D:u.segs.l.length≤8):∀ (m j fuel:Nat) (d:Int),j+m=u.segs.l.length→m<fuel→(0≤d∧d≤1048576) →
  Fc N K b u.av fuel d (j:Int)=K (Gh (wx u.segs.l j) (u.segs.l.drop j)&&(aJ (u.segs.l.drop j)==d))
 | 0,j,fuel+1,d,F,_,_=>by
  rw[Fc];unfold P9
  rw[u4,Lb (by omega),cf,Fw (l:=u.segs.l) (by omega)]
  congr 1
  rw[Bool.eq_iff_iff];simp[Gh,aJ];omega
 | m+1,j,fuel+1,d,F,L,M=>by
  rw[Fc];unfold P9
  have h:j<u.segs.l.length:=by omega
  rw[u4,Jp h,ct,u4,Aa h,ct,tC h]
  have p0:List.take 2 ((AV.int .i64 u.segs.l[j].width)::(AV.int .i64 u.segs.l[j].price)::(u.segs.l.drop (j+1)).flatMap SegD.av)=[(.int .i64 u.segs.l[j].width),(.int .i64 u.segs.l[j].price)]:=rfl
  rw[p0,show Nat.ble 2 (List.length ((AV.int .i64 u.segs.l[j].width)::(AV.int .i64 u.segs.l[j].price)::(u.segs.l.drop (j+1)).flatMap SegD.av))=true by simp,ct]
  rw[show((!b)||Bd [(AV.int .i64 u.segs.l[j].width),(.int .i64 u.segs.l[j].price)])=true by cases b<;>rfl,ct]
  rw[show((Nat.beq (List.length [(AV.int .i64 u.segs.l[j].width),(.int .i64 u.segs.l[j].price)]) 2)&&((Nat.ble 2 2)&&(!false)))=true from rfl,ct]
  simp only[Afz,g_,g9,u4]
  rw[Eg h,Gh,aJ]
  cases G:Ff 1 1048576 u.segs.l[j].width with
  | false=>simp
  | true =>
   cases C:Ff (-1048576) 1048576 u.segs.l[j].price with
   | false=>simp
   | true =>
    simp only[Ff,Bool.and_eq_true,decide_eq_true_eq] at G C
    have I:IntKind.wrap .i64 ((j:Int)+1)=((j+1:Nat):Int):=wS (by omega)
    have key:(cond (cond false true (decide (u.segs.l[j].width>d))) (K false) (Fc N K b u.av fuel (IntKind.wrap .i64 (d - u.segs.l[j].width)) (IntKind.wrap .i64 ((j:Int)+1))))=K (Gh u.segs.l[j].price (u.segs.l.drop (j+1))&&(u.segs.l[j].width+aJ (u.segs.l.drop (j+1))==d)):=by
     by_cases A:u.segs.l[j].width>d
     ·rw[show decide (u.segs.l[j].width>d)=true by simpa using A]
      simp only[cond_true,cond_false]
      congr 1
      cases hs:Gh u.segs.l[j].price (u.segs.l.drop (j+1)) with
      | false=>rfl
      | true =>
       have:=wy hs
       symm;simp;omega
     ·rw[show decide (u.segs.l[j].width>d)=false by simpa using A]
      simp only[cond_false]
      have e1:IntKind.wrap .i64 (d - u.segs.l[j].width)=d - u.segs.l[j].width:=i64 (by omega)
      rw[e1,I,A16 D m (j+1) fuel _ (by omega) (by omega) (by omega),UM h]
      congr 1
      rw[Bool.eq_iff_iff];simp;omega
    rw[key]
    rcases j with _ | j
    ·simp[wx,C.1]
    ·have k:j<u.segs.l.length:=by omega
     rw[wP (by omega),Aa k,ct,tC k,Ay5,ct]
     rw[show ∀ r:List AV,List.drop 1 ((AV.int .i64 u.segs.l[j].width)::(AV.int .i64 u.segs.l[j].price)::r)=(AV.int .i64 u.segs.l[j].price)::r from fun _=>rfl,Az,UM k]
     by_cases B:u.segs.l[j+1].price<u.segs.l[j].price
     ·simp[B,show ¬ u.segs.l[j].price≤u.segs.l[j+1].price by omega]
     ·simp[B,show u.segs.l[j].price≤u.segs.l[j+1].price by omega]
theorem A8w {N:Nat} {u:UnitD} {b:Bool} {K:Bool→Option R} (hN:64≤N) (A:0≤u.min∧u.min≤u.max) (B:u.max≤1048576):Qa N u.av b K=K (kV u):=by
 rw[PX];unfold Xo
 rw[u4]
 by_cases k:u.segs.l.length≤8
 ·rw[show decide ((u.segs.l.length:Int)>8)=false by simp;omega,cf,u3,u2,i64 (by omega)]
  have:=A16 (b:=b) (N:=N) (K:=K) k u.segs.l.length 0 N (u.max - u.min) (by omega) (by omega) (by omega)
  simpa[kV,k,wx] using this
 ·rw[show decide ((u.segs.l.length:Int)>8)=true by simp;omega,ct]
  simp[kV,k]
def AF (hi p:Int):List Int→Bool
 | []=>true
 | x::r=>Ff 0 hi x&&(decide (p<x)&&AF hi x r)
def wz (l:List Int):Nat→Int
 | 0=>-1
 | j+1=>(l[j]?).getD 0
theorem UN {l:List Int} {j:Nat} (h:j<l.length):wz l (j+1)=l[j]:=by simp[wz,h]
theorem A17 {N:Nat} {l:List Int} {e e':Bool} {f hi:Int} {K:Bool→Option R} (hN:64≤N) (C:l.length≤1000000000000) (B:IntKind.wrap .i64 (f - 1)=hi):∀ (m j fuel:Nat),j+m=l.length→m<fuel →
  Gn N K (Av l) l.length e e' f fuel (l.length:Int) (j:Int)=K (AF hi (wz l j) (l.drop j))
 | 0,j,fuel+1,D,_=>by
  rw[Gn];unfold P4
  rw[Lb (by omega),cf,Fw (l:=l) (by omega),AF]
 | m+1,j,fuel+1,D,F=>by
  rw[Gn];unfold P4
  have h:j<l.length:=by omega
  rw[Jp h,ct,Aa h,ct,C3 h,Bcf hN,B,wS (by omega),A17 hN C B m (j+1) fuel (by omega) (by omega),Eg h,AF,UN h]
  cases G:Ff 0 hi l[j] with
  | false=>simp
  | true =>
   simp only[Ff,Bool.and_eq_true,decide_eq_true_eq] at G
   rcases j with _ | j
   ·simp[wz,show(-1:Int)<l[0] by omega]
   ·have k:j<l.length:=by omega
    rw[wP (by omega),Aa k,ct,C3 k,Ay5,ct,UN k]
    by_cases A:l[j]<l[j+1]
    ·simp[A,show ¬ l[j+1]≤l[j] by omega]
    ·simp[A,show l[j+1]≤l[j] by omega]
theorem A8x {N:Nat} {l:List Int} {n:Nat} {e e':Bool} {f hi:Int} {K:Bool→Option R} (hN:64≤N) (A:l.length≤1000000000000) (k:l.length<N) (hn:n=l.length) (B:IntKind.wrap .i64 (f - 1)=hi):Lr N (Av l) n e e' f K=K (AF hi (-1) l):=by
 subst hn
 rw[OW];unfold Xg
 have:=A17 (N:=N) (e:=e) (e':=e') (K:=K) hN A B l.length 0 N (by omega) k
 simpa[wz] using this
def Az2 (u:UnitD):Bool:=cond (u.state==2) (Ff u.min u.max u.output) (u.output==0)
theorem Avc {N:Nat} {u:UnitD} {c:Bool} {f hi:Int} {K:Bool→Option R} (C:u.away.l.length≤1000000000000) (B:IntKind.wrap .i64 (f - 1)=hi):∀ (m j fuel:Nat),j+m=u.away.l.length→m<fuel →
  Qb N K f c u.av fuel (j:Int)=K (AF hi (wz u.away.l j) (u.away.l.drop j)&&Az2 u)
 | 0,j,fuel+1,D,_=>by
  rw[Qb];unfold Xp
  rw[A8u,Lb (by omega),cf,Fw (l:=u.away.l) (by omega),AF]
  simp only[A46,Bad,u2,u3,g9,cK];rfl
 | m+1,j,fuel+1,D,F=>by
  rw[Qb];unfold Xp
  have h:j<u.away.l.length:=by omega
  rw[A8u,Jp h,ct,A8u,Aa h,ct,C3 h,g9,B,wS (by omega),Avc C B m (j+1) fuel (by omega) (by omega),Eg h,AF,UN h]
  cases G:Ff 0 hi u.away.l[j] with
  | false=>simp
  | true =>
   simp only[Ff,Bool.and_eq_true,decide_eq_true_eq] at G
   rcases j with _ | j
   ·simp[wz,show(-1:Int)<u.away.l[0] by omega]
   ·have k:j<u.away.l.length:=by omega
    rw[A8u,Aa h,ct,C3 h,A8u,wP (by omega),Aa k,ct,C3 k,Ay5,ct,UN k]
    by_cases A:u.away.l[j]<u.away.l[j+1]
    ·simp[A,show ¬ u.away.l[j+1]≤u.away.l[j] by omega]
    ·simp[A,show u.away.l[j+1]≤u.away.l[j] by omega]
def Fg (u:UnitD) (hours:Int):Bool :=
 Ff 1 24 hours&&(C4 u&&(Ff 0 1048576 u.min&&(Ff 0 1048576 u.max&&(Ff 0 1048576 u.rampUp&&(Ff 0 1048576 u.rampDown&&(Ff 0 1048576 u.reserve&&(decide (u.min≤u.max)&&(Ff u.min u.max u.startRamp&&(Ff u.min u.max u.stopRamp &&
 (Ff 0 1048576 u.noLoad&&(Ff 0 1048576 u.hotCost&&(Ff 0 1048576 u.coldCost&&(Ff 0 1048576 u.reservePrice&&(Az2 u&&(kV u&&AF (hours - 1) (-1) u.away.l)))))))))))))))
theorem Xq {N:Nat} {u:UnitD} {b:Bool} {hours:Int} {K:Bool→Option R} (hN:64≤N) (C:u.away.l.length≤1000000000000) (k:u.away.l.length<N):Yx N u.av b hours K=K (Fg u hours):=by
 rw[pV];unfold g8
 rw[Bcf hN]
 unfold Fg
 cases D:Ff 1 24 hours with
 | false=>simp
 | true =>
  have F:1≤hours∧hours≤24:=by simpa[Ff] using D
  rw[Cg,D8,ct,Nh hN]
  cases C4 u with
  | false=>simp
  | true =>
   unfold KI UA
   simp only[u2,u3,u6,u7,Bc7,Bdy hN]
   cases A:Ff 0 1048576 u.min with
   | false=>simp
   | true =>
    cases B:Ff 0 1048576 u.max with
    | false=>simp
    | true =>
     unfold dS
     simp only[Ff,Bool.and_eq_true,decide_eq_true_eq] at A B
     simp only[u2,u3,u5,u8,u9,Bdm,Bdn,Bdo,A46,Bad,A8u,Cg,D8,Bdw hN,Bdx hN,Bcf hN,ct,A8v hN A B,A8x hN C k rfl (i64 (a:=hours - 1) (by omega))]
     simp[cK];congr 1
     unfold Az2
     by_cases hs:u.state=2
     ·rw[Bool.eq_iff_iff];simp[hs];grind
     ·rw[Bool.eq_iff_iff];simp[hs];grind
theorem Af0 {N:Nat} {u:UnitD} {b:Bool} {hours:Int} {K:Bool→Option R} (hN:64≤N) (G:u.away.l.length≤1000000000000) (A:u.away.l.length<N):D_ N u.av b hours K=K (Fg u hours):=by
 rw[kT];unfold UL
 rw[g9]
 unfold Fg
 cases I:Ff 1 24 hours with
 | false=>simp
 | true =>
  have O:1≤hours∧hours≤24:=by simpa[Ff] using I
  rw[Cg,D8,ct,Kx]
  cases C4 u with
  | false=>simp
  | true =>
   simp only[u2,u3,g9]
   cases D:Ff 0 1048576 u.min with
   | false=>simp
   | true =>
    simp only[Ff,Bool.and_eq_true,decide_eq_true_eq] at D
    by_cases B:u.min≤u.max∧u.max≤1048576
    ·have C:Ff 0 1048576 u.max=true:=by simp[Ff];omega
     have k:Ff u.min 1048576 u.max=true:=by simp[Ff];omega
     unfold DA NA UK M' UJ M_
     have F:=Avc (u:=u) (N:=N) (c:=b) (K:=K) G (i64 (a:=hours - 1) (by omega)) u.away.l.length 0 N (by omega) A
     simp only[wz,List.drop_zero,Int.natCast_zero] at F
     simp only[u2,u3,u5,u6,u7,u8,u9,Bdm,Bdn,Bc7,Bdo,g9,ct,F,A8w hN ⟨D.1,B.1⟩ B.2,C,k]
     simp[cK,B.1];congr 1
     rw[Bool.eq_iff_iff];simp;grind
    ·have k:Ff u.min 1048576 u.max=false:=by simp[Ff];omega
     simp only[k]
     have:(Ff 0 1048576 u.max&&decide (u.min≤u.max))=false:=by simp[Ff];omega
     simp;congr 1;symm
     cases L:Ff 0 1048576 u.max with
     | false=>rfl
     | true =>
      rw[L] at this
      simp at this
      simp;intro _ _ _ S;omega
end
end Gx

namespace Gx
open Go Go.Proofs
section
variable {R:Type}
theorem Af1 {v n:Int} (hn:0<n):Int.tmod (Int.tmod v n+n) n=v%n:=by
 have k:0≤Int.tmod v n+n:=by
  have:=Int.lt_tmod_of_pos v hn;omega
 rw[Int.tmod_eq_emod_of_nonneg k,Int.tmod_def,show v - n*v.tdiv n+n=v+n*(1 - v.tdiv n) by rw[Int.mul_sub];omega,Int.add_mul_emod_self_left]
theorem Anj {v n:Int} (hn:0<n) (k:n≤4611686018427387904):IntKind.wrap .i64 (Int.tmod v n+n)=Int.tmod v n+n:=by
 have A:=Int.lt_tmod_of_pos v hn
 have B:=Int.tmod_lt_of_pos v hn
 exact i64 (by omega)
theorem Bc8 {N:Nat} {v n:Int} {K:Int→Option R} (hn:0<n) (k:n≤4611686018427387904):DY N v n K=K (v%n):=by
 rw[jU];unfold mC
 rw[Anj hn k,Af1 hn,show(n==0)=false by simp;omega,cf,cf]
theorem A47 {j:Nat} (h:j≤1000000000000):((Nat.ble (j+1) 140737488355328)&&(Nat.ble ((j+1)*16) 140737488355328))=true:=by
 rw[Bool.and_eq_true,Nat.ble_eq,Nat.ble_eq];omega
theorem A48 (l:List Int) (v:Int):List.take (l.length*1) (Av l)++[(.int .i64 v)]=Av (l++[v]):=by
 rw[Nat.mul_one,←Ef l,List.take_length];simp[Av]
end
end Gx

namespace Gx
open Go Go.Proofs
section
variable {R:Type}
def Ih (x y:Nat):Int:=if x<y then -1 else if y<x then 1 else 0
theorem EA (x:Nat):Ih x x=0:=by unfold Ih;simp
theorem UO {a b:Nat} (h:(Ar a).length<(Ar b).length):a<b:=Nat.lt_of_not_le fun k=>by
 have:=B9 k;omega
theorem zc {u w p q P:Nat} (k:u<P) (A:w<P) (h:p<q):u+P*p<w+P*q:=by
 have:P*(p+1)≤P*q:=Nat.mul_le_mul_left _ h
 rw[Nat.mul_add] at this
 omega
theorem Ank {N:Nat} {x y:List Nat} {t u:Bool} {K:Int→Option R} (B:Al x) (C:Al y) (hs:x.length≤1000000000000) (F:x.length=y.length):∀ (i fuel:Nat),i≤x.length→i<fuel →
  Fm N K (Ae x) x.length t (Ae y) y.length u fuel ((i:Int) - 1)=K (Ih (val (x.take i)) (val (y.take i)))
 | 0,fuel+1,_,_=>by
  rw[Fm];unfold Nt
  rw[show decide ((((0:Nat):Int) - 1)≥0)=false by simp,cf]
  simp[EA]
 | i+1,fuel+1,hi,G=>by
  rw[Fm];unfold Nt
  rw[show(((i+1:Nat):Int) - 1)=(i:Int) by omega,show decide ((i:Int)≥0)=true by simp,ct,Aa (by omega),ct,aH (by omega),Aa (by omega),ct,aH (by omega),ct,aH (by omega),ct,aH (by omega),i64 (by omega),
   Ank B C hs F i fuel (by omega) (by omega),A7 (by omega),A7 (by omega)]
  have k:=Bm (Co B i)
  have A:=Bm (Co C i)
  rw[List.length_take,Nat.min_eq_left (by omega)] at k A
  by_cases c1:x[i]<y[i]
  ·have:=zc k A c1
   rw[show decide (((x[i]:Nat):Int)<((y[i]:Nat):Int))=true by simp;exact c1,ct]
   unfold Ih;rw[if_pos this]
  ·by_cases D:y[i]<x[i]
   ·have:=zc A k D
    rw[show decide (((x[i]:Nat):Int)<((y[i]:Nat):Int))=false by simp;omega,cf,show decide (((x[i]:Nat):Int)>((y[i]:Nat):Int))=true by simp;exact D,ct]
    unfold Ih;rw[if_neg (by omega),if_pos this]
   ·have:x[i]=y[i]:=by omega
    rw[show decide (((x[i]:Nat):Int)<((y[i]:Nat):Int))=false by simp;omega,cf,show decide (((x[i]:Nat):Int)>((y[i]:Nat):Int))=false by simp;omega,cf,this]
    unfold Ih
    congr 1
    by_cases a1:val (x.take i)<val (y.take i)
    ·rw[if_pos a1,if_pos (by omega)]
    ·by_cases a2:val (y.take i)<val (x.take i)
     ·rw[if_neg a1,if_pos a2,if_neg (by omega),if_pos (by omega)]
     ·rw[if_neg a1,if_neg a2,if_neg (by omega),if_neg (by omega)]
theorem To {N:Nat} {a b:List Nat} {n m:Nat} {t o t' o':Bool} {K:Int→Option R} (hn:n=a.length) (D:m=b.length) (A:Al a) (B:Al b) (k:fit (a.length+b.length) N) :
  D3 N (Ae a) n t o (Ae b) m t' o' K=K (Ih (val a) (val b)):=by
 subst hn D
 have G:=k.1;have I:=k.2
 rw[JV];unfold Ue
 dsimp only
 rw[Ca rfl A (k.le (by omega)),Ca rfl B (k.le (by omega))]
 have la:=(Bu A).2
 have lb:=(Bu B).2
 by_cases C:(Ar (val a)).length=(Ar (val b)).length
 ·rw[show((((Ar (val a)).length:Nat):Int) != (((Ar (val b)).length:Nat):Int))=false by simp;omega,cf,i64 (by omega),Ank (Ac _) (Ac _) (by omega) C _ N (Nat.le_refl _) (by omega),List.take_length,C,List.take_length,Aj,Aj]
 ·rw[show((((Ar (val a)).length:Nat):Int) != (((Ar (val b)).length:Nat):Int))=true by simp;omega,ct]
  by_cases F:(Ar (val a)).length<(Ar (val b)).length
  ·have:=UO F
   rw[show decide ((((Ar (val a)).length:Nat):Int)<(((Ar (val b)).length:Nat):Int))=true by simp;omega,ct]
   unfold Ih;rw[if_pos this]
  ·have:=UO (show(Ar (val b)).length<(Ar (val a)).length by omega)
   rw[show decide ((((Ar (val a)).length:Nat):Int)<(((Ar (val b)).length:Nat):Int))=false by simp;omega,cf]
   unfold Ih;rw[if_neg (by omega),if_pos this]
theorem Af2 {N:Nat} {a:List Nat} {n:Nat} {t o:Bool} {K:Int→Option R} (hn:n=a.length) (B:Al a) (k:fit a.length N):Sh N (Ae a) n t o K=K (Ih (val a) 0):=by
 subst hn
 have C:=k.1;have D:=k.2
 rw[cM];unfold JK
 dsimp only
 rw[Ca rfl B k,A3z (by omega)]
 by_cases A:val a=0
 ·rw[A,Ea,EA]
  cases N with
  | zero=>omega
  | succ N =>
   rw[Q8];unfold FA
   rw[i64 (by simp)];simp
 ·have F:(Ar (val a)).length≠0:=fun h=>A (By.1 h)
  rw[show((((Ar (val a)).length:Nat):Int) != (0:Int))=true by simp;exact fun h=>A (Aaw.1 h),ct]
  rw[show decide ((((Ar (val a)).length:Nat):Int)<(0:Int))=false by simp,cf]
  unfold Ih;rw[if_neg (by omega),if_pos (by omega)]
end
end Gx

namespace Gx
open Go Go.Proofs
section
variable {R:Type}
theorem qD:∀ {S:List Nat} {d v:Nat} (h:d<S.length),val (S.set d v)+4294967296 ^ d*S[d]=val S+4294967296 ^ d*v
 | x::r,0,v,_=>by simp[val];omega
 | x::r,d+1,v,h=>by
  have k:=qD (S:=r) (d:=d) (v:=v) (by simpa using h)
  simp only[List.set_cons_succ,val,List.getElem_cons_succ,Nat.pow_succ]
  have e1:∀ y,4294967296 ^ d*4294967296*y=4294967296*(4294967296 ^ d*y):=fun y=>by rw[Nat.mul_comm (4294967296 ^ d),Nat.mul_assoc]
  rw[e1,e1]
  omega
theorem Tp (b:List Nat) (d:Nat):val (b.take (d+1))=val (b.take d)+4294967296 ^ d*b.getD d 0:=by
 by_cases h:d<b.length
 ·rw[A7 h,List.getD_eq_getElem?_getD,List.getElem?_eq_getElem h];rfl
 ·rw[List.take_of_length_le (by omega),List.take_of_length_le (by omega),List.getD_eq_getElem?_getD,List.getElem?_eq_none (by omega)];simp
theorem Ov (P s:Nat):P*(s%4294967296)+P*4294967296*(s/4294967296)=P*s:=by
 rw[Nat.mul_assoc,←Nat.mul_add,Nat.add_comm,Nat.div_add_mod]
def A49 (S:List Nat) (d:Nat):Prop:=∀ j (h:j<S.length),d≤j→S[j]=0
theorem KZ {S:List Nat} {d v:Nat} (h:A49 S d):A49 (S.set d v) (d+1):=fun j k A=>by
 rw[List.getElem_set]
 rw[if_neg (by omega)]
 exact h j (by simpa using k) (by omega)
theorem Ni (n:Nat):A49 (List.replicate n 0) 0:=fun j k _=>by simp
theorem Xr {S:List Nat} {d v:Nat} (h:A49 S d) (k:d<S.length):val (S.set d v)=val S+4294967296 ^ d*v:=by
 have:=qD (v:=v) k
 rw[h d k (Nat.le_refl _)] at this;simpa using this
theorem Bdp {a:Nat} (h:a≤1000000000000):IntKind.wrap .i64 (((a:Nat):Int)+(1:Int))=((a+1:Nat):Int):=wS h
theorem Bcg {x:Nat} {m:List Nat} (h:x<m.length):((Nat.beq 1 1)&&((Nat.ble ((0+(x*1))+1) (List.length (Ae m)))&&(!false)))=true:=by
 rw[B7];simp;omega
theorem Bae {x v:Nat} {m:List Nat}:List.set (Ae m) (0+(x*1)) (.int .u32 (v:Int))=Ae (m.set x v):=by rw[Nat.mul_one,Nat.zero_add,nf]
theorem Af3 {N:Nat} {a b:List Nat} {t u:Bool} (L:Al a) (M:Al b) (B:fit (a.length+1) N) (C:b.length≤a.length):∀ (m d fuel:Nat) (S:List Nat) (c:Nat),d+m=a.length→m<fuel→Al S→S.length=a.length+1→A49 S d→c≤1 →
  val S+4294967296 ^ d*c=val (a.take d)+val (b.take d) →
  ∃ S',Al S'∧S'.length=a.length+1∧val S'=val a+val b∧∀ K:Nat→LA→Option R,Wp N K (Ae a) a.length t (Ae b) b.length u fuel (a.length+1) (c:Int) (a.length:Int) (d:Int) (Ae S)=K (Ar (val a+val b)).length (Ae S')
 | 0,d,fuel+1,S,c,hd,_,hS,D,F,hc,hv=>by
  have h1:=B.1;have h2:=B.2
  have O:d=a.length:=by omega
  subst O
  have G:val (S.set a.length c)=val a+val b:=by
   rw[Xr F (by omega),hv,List.take_length,List.take_of_length_le C]
  have I:=Cx hS (show c<4294967296 by omega) a.length
  refine⟨S.set a.length c,I,by simpa using D,G,fun K=>?_⟩
  rw[Wp];unfold GE
  rw[Lb (Nat.le_refl _),cf,Aa (by omega),ct,Bcg (by omega),ct,A14 (by omega),Bae,OP (by simp;omega) I (by simp only[List.length_set,D];exact B),G]
 | m+1,d,fuel+1,S,c,hd,hfu,hS,D,F,hc,hv=>by
  have h1:=B.1;have h2:=B.2
  have k:d<a.length:=by omega
  have ad:=Bc L k
  have step:∀ s:Nat,s<8589934592→s=c+a[d]+b.getD d 0→val (S.set d (s%4294967296))+4294967296 ^ (d+1)*(s/4294967296)=val (a.take (d+1))+val (b.take (d+1)):=by
   intro s _ hs
   rw[Xr F (by omega),A7 k,Tp b d,Nat.pow_succ]
   have e:=Ov (4294967296 ^ d) s
   have e2:4294967296 ^ d*s=4294967296 ^ d*c+4294967296 ^ d*a[d]+4294967296 ^ d*b.getD d 0:=by rw[hs,Nat.mul_add,Nat.mul_add]
   omega
  by_cases A:d<b.length
  ·have bd:=Bc M A
   have T:b.getD d 0=b[d]:=by rw[List.getD_eq_getElem?_getD,List.getElem?_eq_getElem A];rfl
   obtain⟨S',U,V,Y,q4⟩:=Af3 (t:=t) (u:=u) L M B C m (d+1) fuel (S.set d ((c+a[d]+b[d])%4294967296)) ((c+a[d]+b[d])/4294967296) (by omega) (by omega) (Cx hS (by omega) d) (by simpa using D) (KZ F) (by omega) (step _ (by omega) (by rw[T]))
   refine⟨S',U,V,Y,fun K=>?_⟩
   rw[Wp];unfold GE
   rw[Jp k,ct,Aa k,ct,aH k,Jp A,ct,Aa A,ct,aH A,Aa (by omega),ct,Aln (by omega),ct,Jk (by omega),Jk (by omega),N',Jk (by omega),N',Jk (by omega),sI,l7,cQ,wS (by omega)]
   exact q4 K
  ·have T:b.getD d 0=0:=by rw[List.getD_eq_getElem?_getD,List.getElem?_eq_none (by omega)];rfl
   obtain⟨S',U,V,Y,q4⟩:=Af3 (t:=t) (u:=u) L M B C m (d+1) fuel (S.set d ((c+a[d])%4294967296)) ((c+a[d])/4294967296) (by omega) (by omega) (Cx hS (by omega) d) (by simpa using D) (KZ F) (by omega) (step _ (by omega) (by rw[T];rfl))
   refine⟨S',U,V,Y,fun K=>?_⟩
   rw[Wp];unfold GE
   rw[Jp k,ct,Aa k,ct,aH k,Lb (by omega),cf,Aa (by omega),ct,Aln (by omega),ct,Jk (by omega),N',Jk (by omega),sI,l7,cQ,wS (by omega)]
   exact q4 K
theorem A64 {N:Nat} {a b:List Nat} {t u:Bool} (B:Al a) (C:Al b) (k:fit (a.length+1) N) (A:b.length≤a.length) :
  ∃ S',Al S'∧val S'=val a+val b∧∀ K:Nat→LA→Option R,PP N K (Ae a) a.length t (Ae b) b.length u=K (Ar (val a+val b)).length (Ae S'):=by
 have I:=k.1;have L:=k.2
 obtain⟨S',D,_,F,G⟩:=Af3 (R:=R) (t:=t) (u:=u) B C k A a.length 0 N (List.replicate (a.length+1) 0) 0 (by omega) (by omega) (Cu _) (by simp) (Ni _) (by omega) (by rw[Em];simp[val])
 refine⟨S',D,F,fun K=>?_⟩
 unfold PP mT
 rw[Bdp (by omega),A6c (by omega),ct,Int.toNat_natCast,Da]
 exact G K
theorem A65 {N:Nat} {a b:List Nat} {n m:Nat} {t o t' o':Bool} (hn:n=a.length) (G:m=b.length) (B:Al a) (C:Al b) (k:fit (a.length+b.length+1) N) :
  ∃ S',Al S'∧val S'=val a+val b∧∀ K:Nat→LA→Option R,sp N (Ae a) n t o (Ae b) m t' o' K=K (Ar (val a+val b)).length (Ae S'):=by
 subst hn G
 have la:=(Bu B).2
 have lb:=(Bu C).2
 by_cases I:(Ar (val a)).length<(Ar (val b)).length
 ·obtain⟨S',D,A,F⟩:=A64 (R:=R) (N:=N) (a:=Ar (val b)) (b:=Ar (val a)) (t:=o') (u:=o) (Ac _) (Ac _) (k.le (by omega)) (by omega)
  rw[Aj,Aj,Nat.add_comm] at A
  refine⟨S',D,A,fun K=>?_⟩
  rw[mU];unfold pN
  dsimp only
  rw[Ca rfl B (k.le (by omega)),Ca rfl C (k.le (by omega)),Jp I,ct,F,Aj,Aj,Nat.add_comm (val b)]
 ·obtain⟨S',D,A,F⟩:=A64 (R:=R) (N:=N) (a:=Ar (val a)) (b:=Ar (val b)) (t:=o) (u:=o') (Ac _) (Ac _) (k.le (by omega)) (by omega)
  rw[Aj,Aj] at A
  refine⟨S',D,A,fun K=>?_⟩
  rw[mU];unfold pN
  dsimp only
  rw[Ca rfl B (k.le (by omega)),Ca rfl C (k.le (by omega)),Lb (by omega),cf,F,Aj,Aj]
end
end Gx

namespace Gx
open Go Go.Proofs
section
variable {R:Type}
theorem gc {x y:Nat} (k:x<4294967296) (A:y≤4294967296):∃ d c:Nat,d<4294967296∧c≤1∧x+4294967296*c=d+y∧IntKind.wrap .u32 (IntKind.wrap .u64 ((x:Int) - (y:Int)))=(d:Int)∧Int.fdiv (IntKind.wrap .u64 ((x:Int) - (y:Int))) (2 ^ 63)=(c:Int):=by
 by_cases h:y≤x
 ·refine⟨x - y,0,by omega,by omega,by omega,?_,?_⟩
  ·rw[sH (by omega) h,A14 (by omega)]
  ·rw[sH (by omega) h,Bce,Nat.div_eq_of_lt (by omega)]
 ·refine⟨x+4294967296 - y,1,by omega,by omega,by omega,?_,?_⟩
  ·rw[A6w (by omega) (by omega),l7];congr 1;omega
  ·rw[A6w (by omega) (by omega),Bce];congr 1;omega
theorem A8y {x c w:Nat} (k:x<4294967296) (A:c≤1) (B:w<4294967296):IntKind.wrap .u64 ((IntKind.wrap .u64 ((x:Int) - (c:Int))) - (w:Int))=IntKind.wrap .u64 ((x:Int) - ((c+w:Nat):Int)):=by
 rw[l8,l8,l8];omega
theorem Af4 {N:Nat} {a b:List Nat} {t u:Bool} (M:Al a) (O:Al b) (D:fit a.length N) (B:b.length≤a.length) (F:val b≤val a):∀ (m d fuel:Nat) (S:List Nat) (c:Nat),d+m=a.length→m<fuel→Al S→S.length=a.length→A49 S d→c≤1 →
  val S+val (b.take d)=val (a.take d)+4294967296 ^ d*c →
  ∃ S',Al S'∧val S'=val a - val b∧∀ K:Nat→Bool→LA→Option R,Tj N K (Ae b) b.length t a.length (Ae a) u fuel (c:Int) (a.length:Int) (d:Int) (Ae S)=K (Ar (val a - val b)).length true (Ae S')
 | 0,d,fuel+1,S,c,hd,_,hS,C,L,hc,hv=>by
  have T:d=a.length:=by omega
  subst T
  rw[List.take_length,List.take_of_length_le B] at hv
  have U:=Bm hS
  rw[C] at U
  have V:c=0:=by
   rcases Nat.lt_or_ge 0 c with h | h
   ·exfalso
    have:c=1:=by omega
    subst this
    omega
   ·omega
  subst V
  have G:val S=val a - val b:=by omega
  refine⟨S,hS,G,fun K=>?_⟩
  rw[Tj];unfold GC
  rw[Lb (Nat.le_refl _),cf,OP C.symm hS (by rw[C];exact D),G]
 | m+1,d,fuel+1,S,c,hd,hfu,hS,C,L,hc,hv=>by
  have h1:=D.1;have h2:=D.2
  have k:d<a.length:=by omega
  have ad:=Bc M k
  have step:∀ y g c':Nat,y=c+b.getD d 0→a[d]+4294967296*c'=g+y→val (S.set d g)+val (b.take (d+1))=val (a.take (d+1))+4294967296 ^ (d+1)*c':=by
   intro y g c' hy I
   rw[Xr L (by omega),A7 k,Tp b d,Nat.pow_succ,Nat.mul_assoc]
   have e:4294967296 ^ d*(a[d]+4294967296*c')=4294967296 ^ d*(g+(c+b.getD d 0)):=by rw[I,hy]
   rw[Nat.mul_add,Nat.mul_add,Nat.mul_add] at e
   omega
  by_cases A:d<b.length
  ·have bd:=Bc O A
   have I:b.getD d 0=b[d]:=by rw[List.getD_eq_getElem?_getD,List.getElem?_eq_getElem A];rfl
   obtain⟨g,c',Y,g2,g3,g4,g5⟩:=gc ad (show c+b[d]≤4294967296 by omega)
   obtain⟨S',q1,q3,q4⟩:=Af4 (t:=t) (u:=u) M O D B F m (d+1) fuel (S.set d g) c' (by omega) (by omega) (Cx hS Y d) (by simpa using C) (KZ L) g2 (step _ _ _ (by rw[I]) g3)
   refine⟨S',q1,q3,fun K=>?_⟩
   rw[Tj];unfold GC
   rw[Jp k,ct,Aa k,ct,aH k,Jp A,ct,Aa A,ct,aH A,ct,Aln (by omega),ct,Jk (show a[d]<18446744073709551616 by omega),Jk (show b[d]<18446744073709551616 by omega),A8y ad hc bd,g4,g5,cQ,wS (by omega)]
   exact q4 K
  ·have I:b.getD d 0=0:=by rw[List.getD_eq_getElem?_getD,List.getElem?_eq_none (by omega)];rfl
   obtain⟨g,c',Y,g2,g3,g4,g5⟩:=gc ad (show c≤4294967296 by omega)
   obtain⟨S',q1,q3,q4⟩:=Af4 (t:=t) (u:=u) M O D B F m (d+1) fuel (S.set d g) c' (by omega) (by omega) (Cx hS Y d) (by simpa using C) (KZ L) g2 (step _ _ _ (by rw[I];rfl) g3)
   refine⟨S',q1,q3,fun K=>?_⟩
   rw[Tj];unfold GC
   rw[Jp k,ct,Aa k,ct,aH k,Lb (by omega),cf,ct,Aln (by omega),ct,Jk (show a[d]<18446744073709551616 by omega),g4,g5,cQ,wS (by omega)]
   exact q4 K
theorem Af5 {N:Nat} {a b:List Nat} {n m:Nat} {t o t' o':Bool} (hn:n=a.length) (G:m=b.length) (C:Al a) (D:Al b) (k:fit (a.length+b.length) N) (A:val b≤val a) :
  ∃ S',Al S'∧val S'=val a - val b∧∀ K:Nat→Bool→LA→Option R,TS N (Ae a) n t o (Ae b) m t' o' K=K (Ar (val a - val b)).length true (Ae S'):=by
 subst hn G
 have M:=k.1;have O:=k.2
 have la:=(Bu C).2
 have lb:=(Bu D).2
 have B:=B9 A
 obtain⟨S',I,F,L⟩:=Af4 (R:=R) (N:=N) (a:=Ar (val a)) (b:=Ar (val b)) (t:=o') (u:=o) (Ac _) (Ac _) (k.le (by omega)) B (by rw[Aj,Aj];exact A) (Ar (val a)).length 0 N (List.replicate (Ar (val a)).length 0) 0 (by omega) (by omega) (Cu _) (by simp) (Ni _) (by omega) (by rw[Em];simp[val])
 rw[Aj,Aj] at F
 refine⟨S',I,F,fun K=>?_⟩
 rw[mP];unfold pF
 dsimp only
 rw[Ca rfl C (k.le (by omega)),Ca rfl D (k.le (by omega)),To rfl rfl (Ac _) (Ac _) (k.le (by omega)),Aj,Aj]
 have:decide (Ih (val a) (val b)<0)=false:=by unfold Ih;split<;>(try split)<;>simp<;>omega
 rw[this,cf,A6c (by omega),ct,Da]
 have:=L K
 rw[Aj,Aj] at this
 exact this
theorem A66 {N:Nat} {a b:List Nat} {n m:Nat} {t o t' o':Bool} {K:Nat→Bool→LA→Option R} (hn:n=a.length) (D:m=b.length) (B:Al a) (C:Al b) (k:fit (a.length+b.length) N) (A:val a<val b) :
  TS N (Ae a) n t o (Ae b) m t' o' K=K 0 false []:=by
 subst hn D
 have la:=(Bu B).2
 have lb:=(Bu C).2
 rw[mP];unfold pF
 dsimp only
 rw[Ca rfl B (k.le (by omega)),Ca rfl C (k.le (by omega)),To rfl rfl (Ac _) (Ac _) (k.le (by omega)),Aj,Aj]
 have:decide (Ih (val a) (val b)<0)=true:=by unfold Ih;rw[if_pos A];rfl
 rw[this,ct]
end
end Gx

namespace Gx
open Go Go.Proofs
section
variable {R:Type}
theorem Aj9 {n:Nat} (h:n≠0):(((n:Nat):Int)==(0:Int))=false:=by rw[beq_eq_false_iff_ne];omega
theorem Bdq {n:Nat} (h:n=0):(((n:Nat):Int)==(0:Int))=true:=by subst h;rfl
theorem Az3:∀ {S:List Nat} {j:Nat} (h:j<S.length),4294967296 ^ j*S[j]≤val S
 | x::r,0,_=>by simp[val]
 | x::r,j+1,h=>by
  have:=Az3 (S:=r) (j:=j) (by simpa using h)
  simp only[List.getElem_cons_succ,val,Nat.pow_succ]
  rw[Nat.mul_comm (4294967296 ^ j),Nat.mul_assoc]
  omega
theorem A67 {S:List Nat} {k:Nat} (h:val S<4294967296 ^ k):A49 S k:=fun j B C=>by
 have D:=Az3 B
 have F:4294967296 ^ k≤4294967296 ^ j:=Nat.pow_le_pow_right (by omega) C
 rcases Nat.eq_zero_or_pos S[j] with A | A
 ·exact A
 ·have:=Nat.le_mul_of_pos_right (4294967296 ^ j) A
  omega
theorem Avd {p q y s:Nat} (k:p<4294967296) (A:q<4294967296) (B:y<4294967296) (hs:s<4294967296):p+(q*y+s)<18446744073709551616:=by
 have:q*y≤4294967295*4294967295:=Nat.mul_le_mul (by omega) (by omega)
 omega
theorem A68 {N:Nat} {x y:List Nat} {c d:Bool} {f q J:Nat} (M:Al y) (O:q<4294967296) (U:f<x.length) (hs:x.length+y.length≤1000000000000):∀ (m l fuel:Nat) (S:List Nat) (p:Nat) (v:Nat),l+m=y.length→m<fuel→Al S→S.length=x.length+y.length→A49 S (f+y.length)→p<4294967296 →
  val S+4294967296 ^ (f+l)*p=v+4294967296 ^ f*(q*val (y.take l)) →
  ∃ S',Al S'∧S'.length=x.length+y.length∧val S'=v+4294967296 ^ f*(q*val y)∧∀ (B:Nat→Int→Int→LA→Option R) (K:Nat→LA→Option R),Wh N B K (Ae y) y.length d (x.length+y.length) (f:Int) (q:Int) (Ae x) x.length c (J:Int) fuel (p:Int) (y.length:Int) (l:Int) (Ae S)=B (x.length+y.length) J ((f+1:Nat):Int) (Ae S')
 | 0,l,fuel+1,S,p,v,V,_,hS,k,F,D,G=>by
  have I:l=y.length:=by omega
  subst I
  rw[List.take_length] at G
  refine⟨S.set (f+y.length) p,Cx hS D _,by simpa using k,by rw[Xr F (by omega),G],fun B K=>?_⟩
  rw[Wh];unfold TK
  rw[Lb (Nat.le_refl _),cf,wA (by omega),Aa (by omega),ct,Aln (by omega),ct,A14 D,cQ,wS (by omega)]
 | m+1,l,fuel+1,S,p,v,V,Y,hS,k,F,D,G=>by
  have A:l<y.length:=by omega
  have yl:=Bc M A
  have hi:f+l<S.length:=by omega
  have sl:=Bc hS hi
  have hw:=Avd D O yl sl
  have L:q*y[l]<18446744073709551616:=by omega
  generalize C:p+(q*y[l]+S[f+l])=s at *
  have T:=qD (v:=s%4294967296) hi
  have key:val (S.set (f+l) (s%4294967296))+4294967296 ^ (f+(l+1))*(s/4294967296)=v+4294967296 ^ f*(q*val (y.take (l+1))):=by
   rw[A7 A,←Nat.add_assoc f l 1,Nat.pow_succ]
   have e:=Ov (4294967296 ^ (f+l)) s
   have e2:4294967296 ^ (f+l)*s=4294967296 ^ (f+l)*p+(4294967296 ^ (f+l)*(q*y[l])+4294967296 ^ (f+l)*S[f+l]):=by rw[←C,Nat.mul_add,Nat.mul_add]
   have e3:4294967296 ^ f*(q*(val (y.take l)+4294967296 ^ l*y[l]))=4294967296 ^ f*(q*val (y.take l))+4294967296 ^ (f+l)*(q*y[l]):=by
    rw[Nat.mul_add,Nat.mul_add,Nat.pow_add]
    congr 1
    rw[Nat.mul_assoc];congr 1
    rw[←Nat.mul_assoc,←Nat.mul_assoc,Nat.mul_comm q]
   omega
  obtain⟨S',q1,q2,q3,q4⟩:=A68 (N:=N) (x:=x) (c:=c) (d:=d) (J:=J) M O U hs m (l+1) fuel (S.set (f+l) (s%4294967296)) (s/4294967296) v (by omega) (by omega) (Cx hS (by omega) _) (by simpa using k) (fun j hj hk=>by
   rw[List.getElem_set,if_neg (by omega)];exact F j (by simpa using hj) hk) (by omega) key
  refine⟨S',q1,q2,q3,fun B K=>?_⟩
  rw[Wh];unfold TK
  rw[Jp A,ct,Aa A,ct,aH A,wA (by omega),Aa (by omega),ct,oa hi,ct,Aln hi,ct,Jk (show q<18446744073709551616 by omega),Jk (show y[l]<18446744073709551616 by omega),Jk (show S[f+l]<18446744073709551616 by omega),Aay,Jk L,N',Jk (by omega),N',C,Jk hw,sI,l7,cQ,wS (by omega)]
  exact q4 B K
theorem Aq1 {N:Nat} {x y:List Nat} {c d:Bool} (G:Al x) (I:Al y) (A:fit (x.length+y.length) N):∀ (m f fuel:Nat) (S:List Nat),f+m=x.length→m<fuel→Al S→S.length=x.length+y.length →
  val S=val (x.take f)*val y →
  ∃ S',Al S'∧val S'=val x*val y∧∀ K:Nat→LA→Option R,P3 N K (Ae y) y.length d (Ae x) x.length c fuel (x.length+y.length) (x.length:Int) (f:Int) (Ae S)=K (Ar (val x*val y)).length (Ae S')
 | 0,f,fuel+1,S,Y,_,hS,B,F=>by
  have L:f=x.length:=by omega
  subst L
  rw[List.take_length] at F
  refine⟨S,hS,F,fun K=>?_⟩
  rw[P3];unfold FM
  rw[Lb (Nat.le_refl _),cf,OP B.symm hS (by rw[B];exact A),F]
 | m+1,f,fuel+1,S,Y,hfu,hS,B,F=>by
  have h1:=A.1;have h2:=A.2
  have k:f<x.length:=by omega
  have xf:=Bc G k
  have V:=Bm (Co G f)
  rw[List.length_take,Nat.min_eq_left (by omega)] at V
  have b2:=Bm I
  have D:val S<4294967296 ^ (f+y.length):=by
   rw[F,Nat.pow_add];exact Nat.mul_lt_mul'' V b2
  have C:val (x.take (f+1))*val y=val S+4294967296 ^ f*(x[f]*val y):=by
   rw[A7 k,Nat.add_mul,F,Nat.mul_assoc]
  by_cases M:x[f]=0
  ·obtain⟨S',O,T,U⟩:=Aq1 (c:=c) (d:=d) G I A m (f+1) fuel S (by omega) (by omega) hS B (by rw[C,M];simp)
   refine⟨S',O,T,fun K=>?_⟩
   rw[P3];unfold FM
   rw[Jp k,ct,Aa k,ct,aH k,show(((x[f]:Nat):Int)==0)=true by simp[M],ct,wS (by omega)]
   exact U K
  ·obtain⟨S1,p1,p2,p3,p4⟩:=A68 (R:=R) (N:=N) (x:=x) (y:=y) (c:=c) (d:=d) (f:=f) (q:=x[f]) (J:=x.length) I xf k (by omega) y.length 0 N S 0 (val S) (by omega) (by omega) hS B (A67 D) (by omega) (by simp[val])
   obtain⟨S',O,T,U⟩:=Aq1 (c:=c) (d:=d) G I A m (f+1) fuel S1 (by omega) (by omega) p1 p2 (by rw[p3,C])
   refine⟨S',O,T,fun K=>?_⟩
   rw[P3];unfold FM
   rw[Jp k,ct,Aa k,ct,aH k,show(((x[f]:Nat):Int)==0)=false by simp;exact M,cf]
   have:=p4 (P3 N K (Ae y) y.length d (Ae x) x.length c fuel) K
   simp only[Int.natCast_zero] at this
   dsimp only
   rw[this]
   exact U K
theorem eN {N:Nat} {a b:List Nat} {n m:Nat} {t o t' o':Bool} (hn:n=a.length) (G:m=b.length) (C:Al a) (D:Al b) (k:fit (a.length+b.length) N) :
  ∃ S',Al S'∧val S'=val a*val b∧∀ K:Nat→LA→Option R,MV N (Ae a) n t o (Ae b) m t' o' K=K (Ar (val a*val b)).length (Ae S'):=by
 subst hn G
 have M:=k.1;have O:=k.2
 have la:=(Bu C).2
 have lb:=(Bu D).2
 by_cases A:val a=0
 ·refine⟨[],V9,by rw[A];simp[val],fun K=>?_⟩
  rw[TL];unfold gM
  dsimp only
  rw[Ca rfl C (k.le (by omega)),Ca rfl D (k.le (by omega)),A,Nat.zero_mul,Ea];rfl
 ·by_cases B:val b=0
  ·refine⟨[],V9,by rw[B];simp[val],fun K=>?_⟩
   rw[TL];unfold gM
   dsimp only
   rw[Ca rfl C (k.le (by omega)),Ca rfl D (k.le (by omega)),B,Nat.mul_zero,Ea]
   cases ((((Ar (val a)).length:Nat):Int)==0)<;>rfl
  ·obtain⟨S',I,F,L⟩:=Aq1 (R:=R) (N:=N) (x:=Ar (val a)) (y:=Ar (val b)) (c:=o) (d:=o') (Ac _) (Ac _) (k.le (by omega)) (Ar (val a)).length 0 N (List.replicate ((Ar (val a)).length+(Ar (val b)).length) 0) (by omega) (by omega) (Cu _) (by simp) (by rw[Em];simp[val])
   rw[Aj,Aj] at F
   refine⟨S',I,F,fun K=>?_⟩
   rw[TL];unfold gM
   dsimp only
   have n1:(Ar (val a)).length≠0:=fun h=>A (By.1 h)
   have n2:(Ar (val b)).length≠0:=fun h=>B (By.1 h)
   rw[Ca rfl C (k.le (by omega)),Ca rfl D (k.le (by omega)),Aj9 n1,show((false:Bool)==false)=true by rfl,ct,Bc6,Aj9 n2,cf]
   unfold gL mB
   rw[wA (by omega),A6c (by omega),ct,Int.toNat_natCast,Da]
   have:=L K
   rw[Aj,Aj] at this
   exact this
end
end Gx

namespace Gx
open Go Go.Proofs
section
variable {R:Type}
theorem qE {v:Nat} (h:(Ar v).length≤2):v<18446744073709551616:=by
 have:=Bm (Ac v)
 rw[Aj] at this
 have k:4294967296 ^ (Ar v).length≤4294967296 ^ 2:=Nat.pow_le_pow_right (by omega) h
 omega
theorem UP {v:Nat} (h:v<18446744073709551616):(Ar v).length≤2:=Es (by simpa using h)
theorem PZ {N:Nat} {l:List Nat} {n:Nat} {t o:Bool} {K:Int→Option R} (hn:n=l.length) (k:Al l) (A:l.length≤2) (hN:4≤N):Rs N (Ae l) n t o K=K (val l:Int):=by
 subst hn
 obtain⟨M,rfl⟩:∃ M,N=M+4:=⟨N - 4,by omega⟩
 rw[vg];unfold oX
 match l,k,A with
 | [],_,_ =>
  dsimp only
  rw[Jo];unfold Lf
  simp[val]
 | [x],k,_ =>
  have B:=(Dq.1 k).1
  dsimp only
  rw[Jo];unfold Lf
  simp only[List.length_cons,List.length_nil,Int.toNat_zero,Nat.zero_mul,List.drop_zero,DS,Az]
  rw[show decide ((0:Int)<((0+1:Nat):Int))=true by decide,ct,show Ad 0 (0+1)=true by decide,ct,show IntKind.wrap .i64 ((32:Int)*0)=0 by decide,show decide ((0:Int)<0)=false by decide,cf]
  rw[Jo];unfold Lf
  rw[show IntKind.wrap .i64 ((0:Int)+1)=1 by decide,show decide ((1:Int)<((0+1:Nat):Int))=false by decide,cf]
  have e:IntKind.wrap .u64 ((IntKind.wrap .u64 (x:Int))*2 ^ (min (Int.toNat 0) 64))=(x:Int):=by rw[Jk (by omega)];simp;exact Jk (by omega)
  rw[e,show(0:Int)=((0:Nat):Int) by rfl,Ayd (by omega) (by omega)]
  simp[val]
 | [x,y],k,_ =>
  have B:=(Dq.1 k).1
  have D:=(Dq.1 (Dq.1 k).2).1
  dsimp only
  rw[Jo];unfold Lf
  simp only[List.length_cons,List.length_nil,Int.toNat_zero,Nat.zero_mul,List.drop_zero,DS,Az]
  rw[show decide ((0:Int)<((0+1+1:Nat):Int))=true by decide,ct,show Ad 0 (0+1+1)=true by decide,ct,show IntKind.wrap .i64 ((32:Int)*0)=0 by decide,show decide ((0:Int)<0)=false by decide,cf]
  rw[Jo];unfold Lf
  rw[show IntKind.wrap .i64 ((0:Int)+1)=1 by decide,show decide ((1:Int)<((0+1+1:Nat):Int))=true by decide,ct,show Ad 1 (0+1+1)=true by decide,ct,show IntKind.wrap .i64 ((32:Int)*1)=32 by decide,show decide ((32:Int)<0)=false by decide]
  simp only[show Int.toNat 1*1=1 by rfl,List.drop_succ_cons,List.drop_zero,Az,cf]
  rw[Jo];unfold Lf
  rw[show IntKind.wrap .i64 ((1:Int)+1)=2 by decide,show decide ((2:Int)<((0+1+1:Nat):Int))=false by decide,cf]
  have e:IntKind.wrap .u64 ((IntKind.wrap .u64 (x:Int))*2 ^ (min (Int.toNat 0) 64))=(x:Int):=by rw[Jk (by omega)];simp;exact Jk (by omega)
  have C:IntKind.wrap .u64 ((IntKind.wrap .u64 (y:Int))*2 ^ (min (Int.toNat 32) 64))=((y*2 ^ 32:Nat):Int):=by
   rw[Jk (by omega),show(2:Int) ^ (min (Int.toNat 32) 64)=((2 ^ 32:Nat):Int) by rfl,Aay,Jk (by omega)]
  rw[e,C,show(0:Int)=((0:Nat):Int) by rfl,Ayd (by omega) (by omega),Ayd (by simp;omega) (by omega),Nat.zero_or,Nat.or_comm,sJ (by omega)]
  congr 1;simp only[val];omega
theorem Lx {N:Nat} {v:Nat} (B:v<18446744073709551616) (hN:4≤N):∃ S,Al S∧val S=v∧∀ K:Nat→LA→Option R,Bw N (v:Int) K=K (Ar v).length (Ae S):=by
 have A:Al [v%4294967296,v/4294967296]:=Dq.2 ⟨by omega,Dq.2 ⟨by omega,V9⟩⟩
 have k:val [v%4294967296,v/4294967296]=v:=by simp[val];omega
 refine⟨_,A,k,fun K=>?_⟩
 rw[JI];unfold E'
 rw[l7,sI,A14 (show v/4294967296<4294967296 by omega)]
 have:=Acz (R:=R) (N:=N) (l:=[v%4294967296,v/4294967296]) (K:=fun c=>K c (Ae [v%4294967296,v/4294967296])) A (by simp) 2 N (by simp) (by omega)
 rw[show [v%4294967296,v/4294967296].take 2=[v%4294967296,v/4294967296] by rfl,k] at this
 rw[lh];unfold oL
 exact this
theorem Ow {N:Nat} {l:List Nat} {n:Nat} {t o:Bool} {K:Int→Bool→Option R} (hn:n=l.length) (A:Al l) (k:fit l.length N):Wf N (Ae l) n t o K=if val l<18446744073709551616 then K (val l:Int) true else K 0 false:=by
 have C:=k.1
 rw[jS];unfold lq
 rw[Ca hn A k]
 by_cases h:val l<18446744073709551616
 ·have:=UP h
  rw[if_pos h,show decide ((((Ar (val l)).length:Nat):Int)>2)=false by simp;omega,cf,PZ rfl (Ac _) this (by omega),Aj]
 ·have:¬ (Ar (val l)).length≤2:=fun B=>h (qE B)
  rw[if_neg h,show decide ((((Ar (val l)).length:Nat):Int)>2)=true by simp;omega,ct]
theorem ge {N:Nat} {l:List Nat} {n:Nat} {t o:Bool} {K:Nat→LA→Option R} (hn:n=l.length) (A:Al l) (k:fit l.length N):Xj N (Ae l) n t o K=K (Ar (val l)).length (Ae (Ar (val l))):=by
 have B:=k.1;have C:=k.2
 have:=(Bu A).2
 rw[wC];unfold Ac9
 rw[Ca hn A k,A6c (by omega),ct,IU,Bool.or_true,ct]
 congr 1
 unfold Cr
 rw[Nat.min_self,Nat.mul_one,List.take_zero,List.nil_append,List.take_of_length_le (by rw[B7];exact Nat.le_refl _),List.drop_eq_nil_of_le (by simp[B7]),List.append_nil]
end
end Gx

namespace Gx
open Go Go.Proofs
section
variable {R:Type}
def Bdz:List UInt8:=[0,1,2,2,3,3,3,3,4,4,4,4,4,4,4,4,5,5,5,5,5,5,5,5,5,5,5,5,5,5,5,5,6,6,6,6,6,6,6,6,6,6,6,6,6,6,6,6,6,6,6,6,6,6,6,6,6,6,6,6,6,6,6,6,7,7,7,7,7,7,7,7,7,7,7,7,7,7,7,7,7,7,7,7,7,7,7,7,7,7,7,7,7,7,7,7,7,7,7,7,7,7,7,7,7,7,7,7,7,7,7,7,7,7,7,7,7,7,7,7,7,7,7,7,7,7,7,7,8,8,8,8,8,8,8,8,8,8,8,8,8,8,8,8,8,8,8,8,8,8,8,8,8,8,8,8,8,8,8,8,8,8,8,8,8,8,8,8,8,8,8,8,8,8,8,8,8,8,8,8,8,8,8,8,8,8,8,8,8,8,8,8,8,8,8,8,8,8,8,8,8,8,8,8,8,8,8,8,8,8,8,8,8,8,8,8,8,8,8,8,8,8,8,8,8,8,8,8,8,8,8,8,8,8,8,8,8,8,8,8,8,8,8,8,8,8,8,8,8,8,8,8,8,8,8,8]
theorem A8z:∀ i:Fin 256,0<i.1→2 ^ (Bdz.getD i.1 0).toNat≤2*i.1∧i.1<2 ^ (Bdz.getD i.1 0).toNat:=by decide +kernel
theorem Af6 {k y x m:Nat} (h:2 ^ k≤2*y∧y<2 ^ k) (A:y=x/2 ^ m):2 ^ (k+m)≤2*x∧x<2 ^ (k+m):=by
 have B:0<2 ^ m:=Nat.pow_pos (by omega)
 have C:x<2 ^ m*(y+1):=by rw[A];have:=Nat.div_add_mod x (2 ^ m);have:=Nat.mod_lt x B;rw[Nat.mul_add];omega
 have D:2 ^ m*y≤x:=by rw[A];exact Nat.mul_div_le x _
 have F:2 ^ m*(y+1)≤2 ^ m*2 ^ k:=Nat.mul_le_mul_left _ h.2
 have G:2 ^ m*2 ^ k≤2 ^ m*(2*y):=Nat.mul_le_mul_left _ h.1
 rw[Nat.pow_add,Nat.mul_comm (2 ^ k)]
 have I:2 ^ m*(2*y)=2*(2 ^ m*y):=by rw[Nat.mul_left_comm]
 omega
theorem Baf {a:Nat} (h:a<256):IntKind.wrap .u8 (a:Int)=(a:Int):=by rw[wrap_u8];congr 1;omega
theorem Bag {N:Nat} {a b:Nat} {K:Int→Option R} (F:0<a) (G:a<65536) (I:b≤16):∃ k:Nat,2 ^ k≤2*a∧a<2 ^ k∧k≤16∧Fn N K (a:Int) (b:Int)=K ((b+k:Nat):Int):=by
 have small:∀ i:Nat,0<i→i<256→∃ k:Nat,(2 ^ k≤2*i∧i<2 ^ k)∧k≤8∧(Bdz.getD i 0).toNat=k:=by
  intro i hi A
  have:=A8z ⟨i,A⟩ hi
  refine⟨_,this,?_,rfl⟩
  rcases Nat.lt_or_ge 8 (Bdz.getD i 0).toNat with h | h
  ·have D:=this.1
   have L:2 ^ 9≤2 ^ (Bdz.getD i 0).toNat:=Nat.pow_le_pow_right (by omega) h
   simp only at D
   omega
  ·exact h
 by_cases h:a≥256
 ·obtain⟨k,p1,p2,B⟩:=small (a/256) (by omega) (by omega)
  have C:=Af6 (m:=8) p1 (show a/256=a/2 ^ 8 by rfl)
  refine⟨k+8,C.1,C.2,by omega,?_⟩
  unfold Fn
  rw[show decide (((a:Nat):Int)≥256)=true by simp;omega,ct,T3 a 8,show a/2 ^ 8=a/256 by rfl,Baf (by omega),Aa (by omega),ct,Int.toNat_natCast]
  change K (IntKind.wrap .i64 (IntKind.wrap .i64 ((b:Int)+8)+IntKind.wrap .i64 (((Bdz.getD (a/256) 0).toNat:Nat):Int)))=_
  rw[B,i64 (a:=(b:Int)+8) (by omega),i64 (a:=(k:Int)) (by omega),i64 (by omega)]
  congr 1;omega
 ·obtain⟨k,p1,p2,B⟩:=small a (by omega) (by omega)
  refine⟨k,p1.1,p1.2,by omega,?_⟩
  unfold Fn
  rw[show decide (((a:Nat):Int)≥256)=false by simp;omega,cf,Baf (by omega),Aa (by omega),ct,Int.toNat_natCast]
  change K (IntKind.wrap .i64 ((b:Int)+IntKind.wrap .i64 (((Bdz.getD a 0).toNat:Nat):Int)))=_
  rw[B,i64 (a:=(k:Int)) (by omega),i64 (by omega)]
  congr 1
theorem Az4 {N:Nat} {c:Nat} {K:Int→Option R} (D:0<c) (F:c<4294967296):∃ k:Nat,2 ^ k≤2*c∧c<2 ^ k∧k≤32∧Iu N (c:Int) K=K (k:Int):=by
 rw[BA];unfold P5
 by_cases h:c≥65536
 ·obtain⟨k,p1,p2,C,A⟩:=Bag (R:=R) (N:=N) (a:=c/65536) (b:=16) (K:=K) (by omega) (by omega) (by omega)
  have B:=Af6 (m:=16) ⟨p1,p2⟩ (show c/65536=c/2 ^ 16 by rfl)
  refine⟨k+16,B.1,B.2,by omega,?_⟩
  rw[show decide (((c:Nat):Int)≥65536)=true by simp;omega,ct,T3 c 16,show c/2 ^ 16=c/65536 by rfl]
  rw[Nat.add_comm k];exact A
 ·obtain⟨k,p1,p2,C,A⟩:=Bag (R:=R) (N:=N) (a:=c) (b:=0) (K:=K) (by omega) (by omega) (by omega)
  refine⟨k,p1,p2,by omega,?_⟩
  rw[show decide (((c:Nat):Int)≥65536)=false by simp;omega,cf]
  rw[Nat.zero_add] at A;exact A
theorem A18 {N:Nat} {c:Nat} (C:0<c) (D:c<4294967296):∃ s:Nat,s≤31∧2147483648≤c*2 ^ s∧c*2 ^ s<4294967296∧∀ K:Int→Option R,Bx N (c:Int) K=K (s:Int):=by
 have key:∀ K:Int→Option R,∃ s:Nat,(s≤31∧2147483648≤c*2 ^ s∧c*2 ^ s<4294967296)∧Bx N (c:Int) K=K (s:Int):=by
  intro K
  rw[Mv];unfold Ij
  obtain⟨k,p1,p2,I,F⟩:=Az4 (R:=R) (N:=N) (K:=fun c=>K (IntKind.wrap .i64 ((32:Int) - c))) C D
  have e:2 ^ k*2 ^ (32 - k)=4294967296:=by rw[←Nat.pow_add,show k+(32 - k)=32 by omega]
  have L:1≤k:=by
   rcases Nat.eq_zero_or_pos k with h | h
   ·subst h;simp at p2;omega
   ·exact h
  refine⟨32 - k,⟨by omega,?_,?_⟩,?_⟩
  ·have:=Nat.mul_le_mul_right (2 ^ (32 - k)) p1
   rw[e,Nat.mul_assoc] at this;omega
  ·have:=(Nat.mul_lt_mul_right (show 0<2 ^ (32 - k) from Nat.pow_pos (by omega))).2 p2
   rw[e] at this;exact this
  ·rw[F,i64 (by omega)];congr 1;omega
 obtain⟨s,hs,_⟩:=key fun _=>none
 refine⟨s,hs.1,hs.2.1,hs.2.2,fun K=>?_⟩
 obtain⟨s',G,e⟩:=key K
 have:s'=s:=by
  rcases Nat.lt_trichotomy s s' with h | h | h
  ·exfalso
   have A:2 ^ (s+1)≤2 ^ s':=Nat.pow_le_pow_right (by omega) h
   have B:=Nat.mul_le_mul_left c A
   rw[Nat.pow_succ,←Nat.mul_assoc] at B
   omega
  ·exact h.symm
  ·exfalso
   have A:2 ^ (s'+1)≤2 ^ s:=Nat.pow_le_pow_right (by omega) h
   have B:=Nat.mul_le_mul_left c A
   rw[Nat.pow_succ,←Nat.mul_assoc] at B
   omega
 rw[e,this]
theorem Aq2 {s:Nat} (h:s≤31):2 ^ s≤2147483648:=Nat.pow_le_pow_right (n:=2) (by omega) h
theorem A69 {x c s:Nat} (B:x<4294967296) (k:c<2 ^ s) (hs:s≤31):Ta .u64 (c:Int) (IntKind.wrap .u64 ((IntKind.wrap .u64 (x:Int))*2 ^ (min (Int.toNat (s:Int)) 64)))=((x*2 ^ s+c:Nat):Int)∧x*2 ^ s+c<4294967296*2 ^ s:=by
 have C:=Aq2 hs
 have D:x*2 ^ s≤4294967295*2 ^ s:=Nat.mul_le_mul_right _ (by omega)
 have A:(x+1)*2 ^ s≤4294967296*2 ^ s:=Nat.mul_le_mul_right _ (by omega)
 rw[Nat.add_mul] at A
 refine⟨?_,by omega⟩
 rw[Jk (by omega),Int.toNat_natCast,Nat.min_eq_left (by omega),show(2:Int) ^ s=((2 ^ s:Nat):Int) by simp,Aay,Jk (by omega),Ayd (by omega) (by omega),Nat.or_comm,sJ k]
theorem qF {N:Nat} {a:List Nat} {t o:Bool} {s:Nat} (I:Al a) (hs:s≤31) (B:a.length≤1000000000000):∀ (m d fuel:Nat) (S:List Nat) (c:Nat),d+m=a.length→m<fuel→Al S→S.length=a.length+1→A49 S d→c<2 ^ s →
  val S+4294967296 ^ d*c=val (a.take d)*2 ^ s →
  ∃ S',Al S'∧S'.length=a.length+1∧val S'=val a*2 ^ s∧∀ K:Nat→LA→Option R,Js N K (Ae a) a.length t o (s:Int) fuel (a.length+1) (c:Int) (a.length:Int) (d:Int) (Ae S)=K (a.length+1) (Ae S')
 | 0,d,fuel+1,S,c,O,_,hS,C,A,L,D=>by
  have F:d=a.length:=by omega
  subst F
  have hp:=Aq2 hs
  rw[List.take_length] at D
  refine⟨S.set a.length c,Cx hS (by omega) _,by simpa using C,by rw[Xr A (by omega),D],fun K=>?_⟩
  rw[Js];unfold Uh
  rw[Lb (Nat.le_refl _),cf,Aa (by omega),ct,Bcg (by omega),ct,A14 (by omega),Bae]
 | m+1,d,fuel+1,S,c,O,T,hS,C,A,L,D=>by
  have k:d<a.length:=by omega
  have ad:=Bc I k
  obtain⟨U,V⟩:=A69 ad L hs
  generalize G:a[d]*2 ^ s+c=w at *
  have M:0<2 ^ s:=Nat.pow_pos (by omega)
  have key:val (S.set d (w%4294967296))+4294967296 ^ (d+1)*(w/4294967296)=val (a.take (d+1))*2 ^ s:=by
   rw[Xr A (by omega),A7 k,Nat.pow_succ,Nat.add_mul,Nat.mul_assoc _ a[d]]
   have e:=Ov (4294967296 ^ d) w
   have e2:4294967296 ^ d*w=4294967296 ^ d*(a[d]*2 ^ s)+4294967296 ^ d*c:=by rw[←G,Nat.mul_add]
   omega
  obtain⟨S',Y,q2,q3,q4⟩:=qF (t:=t) (o:=o) I hs B m (d+1) fuel (S.set d (w%4294967296)) (w/4294967296) (by omega) (by omega) (Cx hS (by omega) d) (by simpa using C) (KZ A) (Nat.div_lt_of_lt_mul V) key
  refine⟨S',Y,q2,q3,fun K=>?_⟩
  rw[Js];unfold Uh
  rw[Jp k,ct,Aa k,ct,aH k,show decide (((s:Nat):Int)<0)=false by simp,cf,Aa (by omega),ct,Aln (by omega),ct,U,sI,l7,cQ,wS (by omega)]
  exact q4 K
theorem qG {N:Nat} {a:List Nat} {n:Nat} {t o:Bool} {s:Nat} (hn:n=a.length) (A:Al a) (hs:s≤31) (k:fit a.length N) :
  ∃ S',Al S'∧S'.length=a.length+1∧val S'=val a*2 ^ s∧∀ K:Nat→LA→Option R,Sj N (Ae a) n t o (s:Int) K=K (a.length+1) (Ae S'):=by
 subst hn
 have G:=k.1;have I:=k.2
 obtain⟨S',B,C,D,F⟩:=qF (R:=R) (N:=N) (t:=t) (o:=o) A hs (by omega) a.length 0 N (List.replicate (a.length+1) 0) 0 (by omega) (by omega) (Cu _) (by simp) (Ni _) (Nat.pow_pos (by omega)) (by rw[Em];simp[val])
 refine⟨S',B,C,D,fun K=>?_⟩
 rw[dH];unfold KA
 rw[Bdp (by omega),A6c (by omega),ct,Int.toNat_natCast,Da]
 exact F K
end
end Gx

namespace Gx
open Go Go.Proofs
section
variable {R:Type}
theorem Bah {P U Q:List Nat} {i:Nat} (h:i<U.length) {f:Int→Option R}:Ao .u32 (List.drop (P.length+((Int.toNat (i:Int))*1)) (Ae (P++(U++Q)))) f=f (U[i]:Nat):=by
 rw[Int.toNat_natCast,Nat.mul_one,Aty (by simp;omega)]
 congr 2
 rw[List.getElem_append_right (by omega)]
 simp only[Nat.add_sub_cancel_left]
 rw[List.getElem_append_left h]
theorem Bch {P U Q:List Nat} {i:Nat} (h:i<U.length):((Nat.beq 1 1)&&((Nat.ble ((P.length+((Int.toNat (i:Int))*1))+1) (List.length (Ae (P++(U++Q)))))&&(!false)))=true:=by
 rw[B7,Int.toNat_natCast];simp;omega
theorem A7a {P U Q:List Nat} {i v:Nat} (h:i<U.length):List.set (Ae (P++(U++Q))) (P.length+((Int.toNat (i:Int))*1)) (.int .u32 (v:Int))=Ae (P++(U.set i v++Q)):=by
 rw[Int.toNat_natCast,Nat.mul_one,nf,List.set_append_right _ _ (by omega),Nat.add_sub_cancel_left,List.set_append_left _ _ h]
theorem Bc9 {P U Q:List Nat} {i:Nat} (h:i<U.length) {f:Int→Option R}:Ao .u32 (List.drop (P.length+(i*1)) (Ae (P++(U++Q)))) f=f (U[i]:Nat):=by
 have:=Bah (R:=R) (P:=P) (Q:=Q) (f:=f) h;rw[Int.toNat_natCast] at this;exact this
theorem qH {X:List Nat} {p g:Nat} (h:p<X.length):val ((X.set p g).take (p+1))=val (X.take p)+4294967296 ^ p*g:=by
 rw[A7 (by simpa using h),List.getElem_set_self,List.take_set_of_le (Nat.le_refl _)]
theorem P_ {X:List Nat} {n:Nat} (h:X.length=n+1):val X=val (X.take n)+4294967296 ^ n*X[n]:=by
 have:=A7 (l:=X) (c:=n) (by omega)
 rwa [List.take_of_length_le (by omega)] at this
theorem A19 {D:Nat} (h:1≤D) (k:D<18446744073709551616):IntKind.wrap .u64 ((D:Int) - 1)=((D - 1:Nat):Int):=by rw[l8];omega
theorem A80 {D y t:Nat} (hD:D<4294967296) (k:y<4294967296) (A:t≤4294967296):D*y+t<18446744073709551616∧(D*y+t)/4294967296+1≤4294967296:=by
 have:D*y≤4294967295*4294967295:=Nat.mul_le_mul (by omega) (by omega)
 omega
theorem A2a {N:Nat} {P Q X v:List Nat} {n D:Nat} {f g:Bool} (hv:Al v) (hn:v.length=n) (hX:Al X) (hXl:X.length=n+1) (hs:n≤1000000000000) (hD:D<4294967296) (hD1:1≤D) {r:Nat} (hr:val X+val v=4294967296 ^ (n+1)+r) (G:r<4294967296 ^ n) :
  ∀ (m o fuel:Nat) (Y:List Nat) (c:Nat),o+m=n→m<fuel→Al Y→Y.length=n+1→(∀ j (M:j<Y.length) (O:j<X.length),o≤j→Y[j]=X[j])→c≤1→val (Y.take o)+4294967296 ^ o*c=val (X.take o)+val (v.take o) →
  ∃ Y',Al Y'∧Y'.length=n+1∧val Y'=r∧∀ K:Int→LA→Option R,Iv N K P.length (n+1) (n:Int) (D:Int) (Ae v) n f g fuel (c:Int) (n:Int) (o:Int) (Ae (P++(Y++Q)))=K ((D - 1:Nat):Int) (Ae (P++(Y'++Q)))
 | 0,o,fuel+1,Y,c,ho,_,hY,hYl,A,hc,B=>by
  have S:o=n:=by omega
  subst S
  rw[show v.take o=v by rw[←hn];exact List.take_length] at B
  have e1:=P_ hXl
  have eq:val (Y.take o)+4294967296 ^ o*(X[o]+c)=4294967296 ^ o*4294967296+r:=by
   rw[Nat.mul_add,←Nat.pow_succ];omega
  have yt:=Bm (Co hY o)
  rw[List.length_take,Nat.min_eq_left (by omega)] at yt
  have hP:0<4294967296 ^ o:=Nat.pow_pos (by omega)
  have hw:X[o]+c=4294967296:=by
   have M:(val (Y.take o)+4294967296 ^ o*(X[o]+c))/4294967296 ^ o=X[o]+c:=by rw[Nat.add_mul_div_left _ _ hP,Nat.div_eq_of_lt yt,Nat.zero_add]
   have O:(4294967296 ^ o*4294967296+r)/4294967296 ^ o=4294967296:=by rw[Nat.mul_add_div hP,Nat.div_eq_of_lt G,Nat.add_zero]
   rw[←M,eq,O]
  have T:val (Y.take o)=r:=by rw[hw] at eq;omega
  have C:Y[o]=X[o]:=A o (by omega) (by omega) (Nat.le_refl _)
  have U:(Y.set o 0).length=o+1:=by simpa using hYl
  refine⟨Y.set o 0,Cx hY (by omega) o,U,?_,fun K=>?_⟩
  ·have:=qH (X:=Y) (p:=o) (g:=0) (by omega)
   rw[List.take_of_length_le (by omega),T] at this;simpa using this
  ·rw[Iv];unfold P7
   have hXo:=Bc hX (show o<X.length by omega)
   rw[Lb (Nat.le_refl _),cf,Aa (by omega),ct,Bah (by omega),ct,Bch (by omega),ct,C,A14 (show c<4294967296 by omega),N',hw,l7,A7a (by omega),A19 hD1 (by omega),A14 (by omega)]
 | m+1,o,fuel+1,Y,c,ho,hfu,hY,hYl,A,hc,B=>by
  have I:o<n:=by omega
  have F:o<v.length:=by omega
  have vo:=Bc hv F
  have k:o<Y.length:=by omega
  have yo:=Bc hY k
  have C:Y[o]=X[o]:=A o (by omega) (by omega) (Nat.le_refl _)
  have V:c+(Y[o]+v[o])<18446744073709551616:=by omega
  have hs2:(c+(Y[o]+v[o]))/4294967296≤1:=by omega
  generalize L:c+(Y[o]+v[o])=s at *
  have key:val ((Y.set o (s%4294967296)).take (o+1))+4294967296 ^ (o+1)*(s/4294967296)=val (X.take (o+1))+val (v.take (o+1)):=by
   rw[qH k,A7 (l:=X) (by omega),A7 F,Nat.pow_succ]
   have e:=Ov (4294967296 ^ o) s
   have e2:4294967296 ^ o*s=4294967296 ^ o*c+(4294967296 ^ o*X[o]+4294967296 ^ o*v[o]):=by rw[←L,Nat.mul_add,Nat.mul_add,C]
   omega
  obtain⟨Y',q1,q2,q3,q4⟩:=A2a (N:=N) (P:=P) (Q:=Q) (f:=f) (g:=g) hv hn hX hXl hs hD hD1 hr G m (o+1) fuel (Y.set o (s%4294967296)) (s/4294967296) (by omega) (by omega) (Cx hY (by omega) o) (by simpa using hYl) (fun j M O hj=>by rw[List.getElem_set,if_neg (by omega)];exact A j (by simpa using M) O (by omega)) hs2 key
  refine⟨Y',q1,q2,q3,fun K=>?_⟩
  rw[Iv];unfold P7
  rw[Jp I,ct,Aa I,ct,aH F,Aa (by omega),ct,Bah k,ct,Bch k,ct,Jk (show v[o]<18446744073709551616 by omega),Jk (show Y[o]<18446744073709551616 by omega),N',Jk (by omega),N',L,Jk V,sI,l7,A7a k,wS (by omega)]
  exact q4 K
theorem A7b {N:Nat} {P Q U v:List Nat} {n D:Nat} {f g:Bool} (M:Al v) (hn:v.length=n) (hU:Al U) (hUl:U.length=n+1) (hs:n≤1000000000000) (hN:n+2<N) (hD:D<4294967296) (F:0<val v) (T:val U/val v≤D) (V:D≤val U/val v+1) :
  ∀ (m p fuel:Nat) (X:List Nat) (t:Nat),p+m=n→m<fuel→Al X→X.length=n+1→(∀ j (h1:j<X.length) (h2:j<U.length),p≤j→X[j]=U[j])→t≤4294967296→val (X.take p)+D*val (v.take p)=val (U.take p)+4294967296 ^ p*t →
  ∃ X',Al X'∧X'.length=n+1∧val X'=val U%val v∧∀ K:Int→LA→Option R,Gq N K P.length (n+1) (Ae v) n f g (n:Int) (D:Int) fuel (t:Int) (n:Int) (p:Int) (Ae (P++(X++Q)))=K ((val U/val v:Nat):Int) (Ae (P++(X'++Q)))
 | 0,p,fuel+1,X,t,hp,_,hX,hXl,k,ht,C=>by
  have hp':p=n:=by omega
  subst hp'
  rw[show v.take p=v by rw[←hn];exact List.take_length] at C
  have hXp:X[p]=U[p]:=k p (by omega) (by omega) (Nat.le_refl _)
  have up:=Bc hU (show p<U.length by omega)
  obtain⟨d,c,g1,g2,g3,O,S⟩:=gc up ht
  have A:(X.set p d).length=p+1:=by simpa using hXl
  have hX2:=Cx hX g1 p
  have hv2:val (X.set p d)=val (X.take p)+4294967296 ^ p*d:=by
   have:=qH (X:=X) (p:=p) (g:=d) (by omega)
   rwa [List.take_of_length_le (by omega)] at this
  have eU:=P_ hUl
  have main:val (X.set p d)+D*val v=val U+4294967296 ^ (p+1)*c:=by
   have e:4294967296 ^ p*(U[p]+4294967296*c)=4294967296 ^ p*(d+t):=by rw[g3]
   rw[Nat.mul_add,Nat.mul_add,←Nat.mul_assoc] at e
   rw[hv2,eU,Nat.pow_succ];omega
  have hlt:=Bm hX2
  rw[A] at hlt
  have hdm:=Nat.div_add_mod (val U) (val v)
  have hmod:=Nat.mod_lt (val U) F
  have vlt:=Bm M
  rw[hn] at vlt
  by_cases hc:c=0
  ·subst hc
   have hDq:D=val U/val v:=by
    have:D≤val U/val v:=by rw[Nat.le_div_iff_mul_le F];omega
    omega
   refine⟨X.set p d,hX2,A,?_,fun K=>?_⟩
   ·rw[hDq,Nat.mul_comm] at main;omega
   ·rw[Gq];unfold Kp
    rw[Lb (Nat.le_refl _),cf,Aa (by omega),ct,Bah (by omega),ct,Bch (by omega),ct,hXp,Jk (show U[p]<18446744073709551616 by omega),O,S,show(((0:Nat):Int)==0)=true by rfl,ct,A14 hD,A7a (by omega),hDq]
  ·have hc1:c=1:=by omega
   subst hc1
   have hDq:D=val U/val v+1:=by
    have:¬ D≤val U/val v:=fun h=>by
     have:=Nat.mul_le_mul_left (val v) h
     rw[Nat.mul_comm] at this
     omega
    omega
   have hr:val (X.set p d)+val v=4294967296 ^ (p+1)+val U%val v:=by
    rw[hDq,Nat.add_mul,Nat.mul_comm (val U/val v)] at main;omega
   obtain⟨Y',q1,q2,q3,q4⟩:=A2a (R:=R) (N:=N) (P:=P) (Q:=Q) (f:=f) (g:=g) (X:=X.set p d) M hn hX2 A hs hD (by rw[hDq];exact Nat.le_add_left 1 _) hr (by omega) p 0 N (X.set p d) 0 (by omega) (by omega) hX2 A (fun _ _ _ _=>rfl) (by omega) (by simp[val])
   refine⟨Y',q1,q2,q3,fun K=>?_⟩
   rw[Gq];unfold Kp
   rw[Lb (Nat.le_refl _),cf,Aa (by omega),ct,Bah (by omega),ct,Bch (by omega),ct,hXp,Jk (show U[p]<18446744073709551616 by omega),O,S,show(((1:Nat):Int)==0)=false by rfl,cf,A7a (by omega)]
   have:=q4 K
   rw[show D - 1=val U/val v by rw[hDq];rfl] at this
   exact this
 | m+1,p,fuel+1,X,t,hp,hfu,hX,hXl,k,ht,C=>by
  have I:p<n:=by omega
  have G:p<v.length:=by omega
  have vp:=Bc M G
  have B:p<X.length:=by omega
  have hXp:X[p]=U[p]:=k p (by omega) (by omega) (Nat.le_refl _)
  have up:=Bc hU (show p<U.length by omega)
  obtain⟨hw1,hw2⟩:=A80 hD vp ht
  have hDv:D*v[p]<18446744073709551616:=by omega
  generalize L:D*v[p]+t=w at *
  obtain⟨d,c,g1,g2,g3,O,S⟩:=gc up (show w%4294967296≤4294967296 by omega)
  have key:val ((X.set p d).take (p+1))+D*val (v.take (p+1))=val (U.take (p+1))+4294967296 ^ (p+1)*(w/4294967296+c):=by
   rw[qH B,A7 G,A7 (l:=U) (by omega),Nat.pow_succ]
   have e:=Ov (4294967296 ^ p) w
   have e2:4294967296 ^ p*w=4294967296 ^ p*(D*v[p])+4294967296 ^ p*t:=by rw[←L,Nat.mul_add]
   have e3:4294967296 ^ p*(U[p]+4294967296*c)=4294967296 ^ p*(d+w%4294967296):=by rw[g3]
   rw[Nat.mul_add,Nat.mul_add,←Nat.mul_assoc] at e3
   have e4:D*(val (v.take p)+4294967296 ^ p*v[p])=D*val (v.take p)+4294967296 ^ p*(D*v[p]):=by rw[Nat.mul_add,Nat.mul_left_comm]
   rw[e4,Nat.mul_add]
   omega
  obtain⟨X',q1,q2,q3,q4⟩:=A7b (N:=N) (P:=P) (Q:=Q) (f:=f) (g:=g) M hn hU hUl hs hN hD F T V m (p+1) fuel (X.set p d) (w/4294967296+c) (by omega) (by omega) (Cx hX g1 p) (by simpa using hXl) (fun j h1 h2 hj=>by rw[List.getElem_set,if_neg (by omega)];exact k j (by simpa using h1) h2 (by omega)) (by omega) key
  refine⟨X',q1,q2,q3,fun K=>?_⟩
  rw[Gq];unfold Kp
  rw[Jp I,ct,Aa I,ct,aH G,Aa (by omega),ct,Bah B,ct,Bch B,ct,hXp,Jk (show v[p]<18446744073709551616 by omega),Aay,Jk hDv,N',L,Jk hw1,l7,Jk (show w%4294967296<18446744073709551616 by omega),Jk (show U[p]<18446744073709551616 by omega),O,S,sI,N',Jk (by omega),A7a B,wS (by omega)]
  exact q4 K
end
end Gx

namespace Gx
open Go Go.Proofs
section
variable {R:Type}
theorem kW (a b:Nat):Int.tdiv (a:Int) (b:Int)=((a/b:Nat):Int):=rfl
theorem eO (a b:Nat):Int.tmod (a:Int) (b:Int)=((a%b:Nat):Int):=rfl
theorem Bai {l:Nat} (h:l<4294967296):(((Int.fdiv (l:Int) (2 ^ 32)) != (0:Int)))=false:=by rw[sI,Nat.div_eq_of_lt h];rfl
theorem Baj {l:Nat} (h:4294967296≤l):(((Int.fdiv (l:Int) (2 ^ 32)) != (0:Int)))=true:=by
 have k:l/4294967296≠0:=by omega
 rw[sI];rw[bne_iff_ne];omega
theorem Ba7 {a b:Nat} (k:a<4294967296) (A:b<4294967296):Ta .u64 (IntKind.wrap .u64 ((a:Int)*2 ^ 32)) (b:Int)=((a*4294967296+b:Nat):Int):=by
 rw[show(2:Int) ^ 32=((2 ^ 32:Nat):Int) by rfl,Aay,Jk (by omega),Ayd (by omega) (by omega),sJ (by omega)]
theorem Ba8 {B l v1 v2 m u2:Nat} (h:m*B+u2<l*v2):(l*v1+m)*B+u2<l*(v1*B+v2):=by rw[Nat.add_mul,Nat.mul_add,←Nat.mul_assoc l v1];omega
theorem Ba9 {B l v1 v2 m u2:Nat} (h:l*v2≤m*B+u2):l*(v1*B+v2)≤(l*v1+m)*B+u2:=by rw[Nat.add_mul,Nat.mul_add,←Nat.mul_assoc l v1];omega
theorem Bba {B u0 u1 u2 v1 v2:Nat} (k:v2<B) (h:(u0*B+u1)*B+u2<(v1*B+v2+1)*B):u0*B+u1<v1*B+B:=by
 have:u0*B+u1<v1*B+v2+1:=Nat.lt_of_mul_lt_mul_right (Nat.lt_of_le_of_lt (Nat.le_add_right _ u2) h)
 omega
theorem Bb9 (P x:Nat):P*4294967296*x=P*(x*4294967296):=by rw[Nat.mul_assoc,Nat.mul_comm 4294967296]
theorem A7c {N:Nat} {P Q U v:List Nat} {n:Nat} {f g:Bool} {K:Int→LA→Option R} (hn:v.length=n+2) (hv:Al v) (hU:Al U) (hUl:U.length=n+3) (hs:n≤1000000000000) {v1 v2 u2 top:Nat}
  (e1:v[n+1]'(by omega)=v1) (e2:v[n]'(by omega)=v2) (e3:U[n]'(by omega)=u2) (V:2147483648≤v1) (htop:top<v1*4294967296+4294967296)
  (hV:(v1*4294967296+v2)*4294967296 ^ n≤val v) (hV':val v<(v1*4294967296+v2+1)*4294967296 ^ n) (hUU:(top*4294967296+u2)*4294967296 ^ n≤val U) (hUU':val U<(top*4294967296+u2+1)*4294967296 ^ n) (hq:val U/val v<4294967296) :
  ∀ (k fuel l m:Nat),k<fuel→4294967296≤m+k*2147483648→m<4294967296→l*v1+m=top→val U/val v≤l→∃ D,D<4294967296∧val U/val v≤D∧D≤val U/val v+1 ∧
   Fb N K P.length (n+3) (Ae v) (n+2) f g (Ae (P++(U++Q))) fuel ((n+2:Nat):Int) (l:Int) (m:Int)=Fa N K P.length (n+3) (Ae v) (n+2) f g ((n+2:Nat):Int) (Ae (P++(U++Q))) (D:Int):=by
 have b1:=Bc hv (show n+1<v.length by omega)
 have b2:=Bc hv (show n<v.length by omega)
 have b3:=Bc hU (show n<U.length by omega)
 rw[e1] at b1;rw[e2] at b2;rw[e3] at b3
 have hP:0<4294967296 ^ n:=Nat.pow_pos (by omega)
 have I:0<val v:=Nat.lt_of_lt_of_le (Nat.mul_pos (by omega) hP) hV
 intro k
 induction k with
 | zero=>intro fuel l m _ h1 h2;omega
 | succ k ih =>
  intro fuel l m hf hm Y M hql
  obtain⟨fuel,rfl⟩:∃ F,fuel=F+1:=⟨fuel - 1,by omega⟩
  generalize L:val U/val v=q at *
  have wi1:IntKind.wrap .i64 (((n+2:Nat):Int) - 1)=((n+1:Nat):Int):=by rw[i64 (by omega)];omega
  have wi2:IntKind.wrap .i64 (((n+2:Nat):Int) - 2)=((n:Nat):Int):=by rw[i64 (by omega)];omega
  have lower:q<l→l<18446744073709551616→∃ D,D<4294967296∧q≤D∧D≤q+1 ∧
    Mx N (Fb N K P.length (n+3) (Ae v) (n+2) f g (Ae (P++(U++Q))) fuel) K P.length (n+3) (Ae v) (n+2) f g ((n+2:Nat):Int) (l:Int) (m:Int) (Ae (P++(U++Q)))=Fa N K P.length (n+3) (Ae v) (n+2) f g ((n+2:Nat):Int) (Ae (P++(U++Q))) (D:Int):=by
   intro hlt A
   have G:(l - 1)*v1+(m+v1)=top:=by
    have:l*v1=(l - 1)*v1+v1:=by
     obtain⟨l',rfl⟩:∃ l',l=l'+1:=⟨l - 1,by omega⟩
     rw[Nat.add_mul];simp
    omega
   unfold Mx Wn
   rw[wi1,Aa (by omega),ct,aH (show n+1<v.length by omega),e1,Jk (show v1<18446744073709551616 by omega),N',Jk (show m+v1<18446744073709551616 by omega),A19 (by omega) A]
   by_cases O:4294967296≤m+v1
   ·have hDB:l - 1<4294967296:=by
     apply Nat.lt_of_not_le;intro hge
     have:=Nat.mul_le_mul_right v1 hge
     rw[Nat.mul_comm 4294967296] at this
     omega
    have B:(l - 1)*(v1*4294967296+v2)≤top*4294967296+u2:=by
     have x1:(l - 1)*v2≤4294967295*4294967295:=Nat.mul_le_mul (by omega) (by omega)
     rw[←G,Nat.add_mul,Nat.mul_add,←Nat.mul_assoc]
     omega
    have C:=Alv hV' hUU B (by omega) I
    rw[L] at C
    exact⟨l - 1,hDB,by omega,C,by rw[Baj O,ct]⟩
   ·obtain⟨D,d1,d2,d3,d4⟩:=ih fuel (l - 1) (m+v1) (by omega) (by omega) (by omega) G (by omega)
    exact⟨D,d1,d2,d3,by rw[Bai (by omega),cf,d4]⟩
  rw[Fb];unfold Wo
  by_cases hlB:l<4294967296
  ·rw[Bai hlB,show((false:Bool)==false)=true by rfl,ct,wi2,Aa (by omega),ct,aH (show n<v.length by omega),Aa (by omega),ct,Bah (show n<U.length by omega),Bc6,e2,e3,Jk (show v2<18446744073709551616 by omega),Jk (show u2<18446744073709551616 by omega),Aay]
   have x1:l*v2≤4294967295*4294967295:=Nat.mul_le_mul (by omega) (by omega)
   rw[Jk (show l*v2<18446744073709551616 by omega),Ba7 Y b3]
   by_cases S:m*4294967296+u2<l*v2
   ·rw[show decide (((l*v2:Nat):Int)>((m*4294967296+u2:Nat):Int))=true by rw[decide_eq_true_eq];omega,ct]
    have T:val U/val v<l:=Alu hV hUU' (by rw[←M];exact Ba8 S) I
    rw[L] at T
    exact lower T (by omega)
   ·rw[show decide (((l*v2:Nat):Int)>((m*4294967296+u2:Nat):Int))=false by rw[decide_eq_false_iff_not];omega,cf]
    have B:l*(v1*4294967296+v2)≤top*4294967296+u2:=by
     rw[←M];exact Ba9 (Nat.le_of_not_lt S)
    have C:=Alv hV' hUU B (by omega) I
    rw[L] at C
    exact⟨l,hlB,hql,C,rfl⟩
  ·rw[Baj (by omega),show((true:Bool)==false)=false by rfl,cf]
   have A:l<18446744073709551616:=by
    have:l*2147483648≤l*v1:=Nat.mul_le_mul_left _ V
    omega
   exact lower (by omega) A
theorem Af7 {N:Nat} {P Q U v:List Nat} {n:Nat} {f g:Bool} (hn:v.length=n+2) (F:Al v) (hU:Al U) (hUl:U.length=n+3) (hs:n≤1000000000) (hN:n+8<N) (S:2147483648≤v[n+1]'(by omega)) (T:val U<val v*4294967296) :
  ∃ U',Al U'∧U'.length=n+3∧val U'=val U%val v∧∀ K:Int→LA→Option R,Lt N P.length (n+3) (Ae v) (n+2) f g (Ae (P++(U++Q))) K=K ((val U/val v:Nat):Int) (Ae (P++(U'++Q))):=by
 have b1:=Bc F (show n+1<v.length by omega)
 have b2:=Bc F (show n<v.length by omega)
 have b3:=Bc hU (show n<U.length by omega)
 have b4:=Bc hU (show n+1<U.length by omega)
 have b5:=Bc hU (show n+2<U.length by omega)
 have hP:0<4294967296 ^ n:=Nat.pow_pos (by omega)
 have vv:val v=val (v.take n)+4294967296 ^ n*(v[n+1]'(by omega)*4294967296+v[n]'(by omega)):=by
  have k:=A7 (l:=v) (c:=n+1) (by omega)
  have A:=A7 (l:=v) (c:=n) (by omega)
  rw[List.take_of_length_le (by omega)] at k
  rw[k,A,Nat.pow_succ,Nat.mul_add,Nat.mul_assoc,Nat.mul_comm 4294967296 v[n+1]];omega
 have uu:val U=val (U.take n)+4294967296 ^ n*((U[n+2]'(by omega)*4294967296+U[n+1]'(by omega))*4294967296+U[n]'(by omega)):=by
  have h0:=A7 (l:=U) (c:=n+2) (by omega)
  have k:=A7 (l:=U) (c:=n+1) (by omega)
  have A:=A7 (l:=U) (c:=n) (by omega)
  rw[List.take_of_length_le (by omega)] at h0
  have x1:4294967296 ^ (n+2)*U[n+2]=4294967296 ^ n*(U[n+2]*4294967296*4294967296):=by rw[Nat.pow_succ (n:=4294967296) (m:=n+1),Nat.pow_succ,Bb9,Bb9]
  have x2:4294967296 ^ (n+1)*U[n+1]=4294967296 ^ n*(U[n+1]*4294967296):=by rw[Nat.pow_succ,Bb9]
  rw[h0,k,A,x1,x2,Nat.add_mul,Nat.mul_add,Nat.mul_add];omega
 have tv:=Bm (Co F n)
 have tu:=Bm (Co hU n)
 rw[List.length_take,Nat.min_eq_left (by omega)] at tv tu
 generalize e1:v[n+1]'(by omega)=v1 at *
 generalize e2:v[n]'(by omega)=v2 at *
 generalize e3:U[n]'(by omega)=u2 at *
 generalize e4:U[n+1]'(by omega)=u1 at *
 generalize e5:U[n+2]'(by omega)=u0 at *
 have G:0<val v:=by
  have:0<4294967296 ^ n*(v1*4294967296+v2):=Nat.mul_pos hP (by omega)
  omega
 have hV:(v1*4294967296+v2)*4294967296 ^ n≤val v:=by rw[Nat.mul_comm];omega
 have hV':val v<(v1*4294967296+v2+1)*4294967296 ^ n:=by rw[Nat.mul_comm,Nat.mul_add];omega
 have hUU:((u0*4294967296+u1)*4294967296+u2)*4294967296 ^ n≤val U:=by rw[Nat.mul_comm];omega
 have hUU':val U<((u0*4294967296+u1)*4294967296+u2+1)*4294967296 ^ n:=by rw[Nat.mul_comm,Nat.mul_add];omega
 have V:val U/val v<4294967296:=Nat.div_lt_of_lt_mul T
 have B:u0*4294967296+u1<v1*4294967296+4294967296:=by
  have k:((u0*4294967296+u1)*4294967296+u2)*4294967296 ^ n<(v1*4294967296+v2+1)*4294967296 ^ n*4294967296:=by
   have:=(Nat.mul_lt_mul_right (show 0<4294967296 by omega)).2 hV'
   omega
  rw[Nat.mul_right_comm] at k
  exact Bba b2 (Nat.lt_of_mul_lt_mul_right k)
 obtain⟨top,I⟩:∃ top,u0*4294967296+u1=top:=⟨_,rfl⟩
 rw[I] at hUU hUU' B
 have Y:=Nat.div_add_mod top v1
 have hmod:=Nat.mod_lt top (show 0<v1 by omega)
 have hq0:val U/val v≤top/v1:=by
  have k:val U/val v<top/v1+1:=by
   apply Alu hV hUU' _ G
   have A:top<v1*(top/v1+1):=by rw[Nat.mul_add];omega
   have h3:(top+1)*4294967296≤v1*(top/v1+1)*4294967296:=Nat.mul_le_mul_right _ A
   rw[Nat.mul_add,←Nat.mul_assoc,Nat.mul_comm _ v1]
   omega
  omega
 have key:∀ K:Int→LA→Option R,∃ D,D<4294967296∧val U/val v≤D∧D≤val U/val v+1∧Lt N P.length (n+3) (Ae v) (n+2) f g (Ae (P++(U++Q))) K=Fa N K P.length (n+3) (Ae v) (n+2) f g ((n+2:Nat):Int) (Ae (P++(U++Q))) (D:Int):=by
  intro K
  obtain⟨D,L,M,O,C⟩:=A7c (R:=R) (N:=N) (P:=P) (Q:=Q) (f:=f) (g:=g) (K:=K) hn F hU hUl (by omega) e1 e2 e3 S B hV hV' hUU hUU' V 2 N (top/v1) (top%v1) (by omega) (by omega) (by omega) (by rw[Nat.mul_comm];exact Y) hq0
  refine⟨D,L,M,O,?_⟩
  rw[←C,PE];unfold Xl
  have wi1:IntKind.wrap .i64 (((n+2:Nat):Int) - 1)=((n+1:Nat):Int):=by rw[i64 (by omega)];omega
  rw[Aa (by omega),ct,Bc9 (show n+2<U.length by omega),wi1,Aa (by omega),ct,Bah (show n+1<U.length by omega),Aa (by omega),ct,aH (show n+1<v.length by omega),e1,e4,e5,Jk (show v1<18446744073709551616 by omega),Aj9 (by omega),cf,ct,aH (show n+1<v.length by omega),e1,Jk (show v1<18446744073709551616 by omega),Aj9 (by omega),cf,Jk (show u0<18446744073709551616 by omega),Jk (show u1<18446744073709551616 by omega),Ba7 b5 b4,I,kW,eO,Jk (show top/v1<18446744073709551616 from Nat.lt_of_le_of_lt (Nat.div_le_self _ _) (by omega))]
 have fin:∀ D,D<4294967296→val U/val v≤D→D≤val U/val v+1→∃ U',Al U'∧U'.length=n+3∧val U'=val U%val v∧∀ K:Int→LA→Option R,Fa N K P.length (n+3) (Ae v) (n+2) f g ((n+2:Nat):Int) (Ae (P++(U++Q))) (D:Int)=K ((val U/val v:Nat):Int) (Ae (P++(U'++Q))):=by
  intro D L M O
  obtain⟨X',q1,q2,q3,q4⟩:=A7b (R:=R) (N:=N) (P:=P) (Q:=Q) (U:=U) (v:=v) (n:=n+2) (D:=D) (f:=f) (g:=g) F hn hU hUl (by omega) (by omega) L G M O (n+2) 0 N U 0 (by omega) (by omega) hU hUl (fun _ _ _ _=>rfl) (by omega) (by simp[val])
  exact⟨X',q1,q2,q3,fun K=>by unfold Fa Wm;exact q4 K⟩
 by_cases hz:val U/val v+1<4294967296
 ·obtain⟨U1,a1,a2,a3,a4⟩:=fin (val U/val v) V (Nat.le_refl _) (by omega)
  obtain⟨U2,c1,c2,c3,c4⟩:=fin (val U/val v+1) hz (by omega) (Nat.le_refl _)
  have:U1=U2:=by
   have k:=(Bu a1).1;have A:=(Bu c1).1
   rw[a3] at k;rw[c3] at A;rw[k,A,a2,c2]
  subst this
  refine⟨U1,a1,a2,a3,fun K=>?_⟩
  obtain⟨D,L,M,O,C⟩:=key K
  have:D=val U/val v∨D=val U/val v+1:=by
   generalize val U/val v=q at *;omega
  rcases this with rfl | rfl
  ·rw[C,a4 K]
  ·rw[C,c4 K]
 ·obtain⟨U1,a1,a2,a3,a4⟩:=fin (val U/val v) V (Nat.le_refl _) (by omega)
  refine⟨U1,a1,a2,a3,fun K=>?_⟩
  obtain⟨D,L,M,O,C⟩:=key K
  have:D=val U/val v:=by
   generalize val U/val v=q at *;omega
  subst this
  rw[C,a4 K]
end
end Gx

namespace Gx
open Go Go.Proofs
section
variable {R:Type}
theorem eP {l:List Nat} {d:Nat} (h:d<l.length):val (l.drop d)=l[d]+4294967296*val (l.drop (d+1)):=by
 rw[List.drop_eq_getElem_cons h,val]
theorem Ave {S:List Nat} {d v:Nat} (h:d<S.length):(S.set d v).drop d=v::S.drop (d+1):=by
 rw[List.drop_eq_getElem_cons (by simpa using h),List.getElem_set_self,List.drop_set_of_lt (by omega)]
theorem xA {N:Nat} {a:List Nat} {t o:Bool} {b:Nat} (I:Al a) (A:0<b) (T:b<4294967296) (B:fit a.length N):∀ (c fuel:Nat) (S:List Nat) (r:Nat),c<fuel→c≤a.length→Al S→S.length=a.length→r<b→val (S.drop c)*b+r=val (a.drop c) →
  ∃ S' S2,Al S'∧val S'=val a/b∧Al S2∧val S2=val a%b∧∀ K:Nat→Nat→LA→LA→Option R,D9 N K (Ae a) a.length t o (b:Int) fuel (r:Int) ((c:Int) - 1) (Ae S)=K (Ar (val a/b)).length (Ar (val a%b)).length (Ae S') (Ae S2)
 | 0,fuel+1,S,r,_,_,hS,F,hr,C=>by
  have U:=B.1
  rw[List.drop_zero,List.drop_zero] at C
  have L:val a/b=val S:=by
   rw[←C,Nat.mul_comm,Nat.mul_add_div A,Nat.div_eq_of_lt hr,Nat.add_zero]
  have M:val a%b=r:=by rw[←C,Nat.mul_comm,Nat.mul_add_mod,Nat.mod_eq_of_lt hr]
  obtain⟨S2,s1,s2,V⟩:=Lx (R:=R) (N:=N) (v:=r) (by omega) (by omega)
  refine⟨S,S2,hS,L.symm,s1,by rw[M,s2],fun K=>?_⟩
  rw[D9];unfold J9
  rw[show decide ((((0:Nat):Int) - 1)≥0)=false by simp,cf,OP F.symm hS (by rw[F];exact B),V,L,M]
 | c+1,fuel+1,S,r,Y,hc,hS,F,hr,C=>by
  have U:=B.1;have h2:=B.2
  have k:c<a.length:=by omega
  have ac:=Bc I k
  have hrB:r<4294967296:=by omega
  have O:r*4294967296+a[c]<b*4294967296:=by
   have:(r+1)*4294967296≤b*4294967296:=Nat.mul_le_mul_right _ hr
   rw[Nat.add_mul] at this;omega
  have G:r*4294967296+a[c]<18446744073709551616:=by omega
  obtain⟨w,D⟩:∃ w,r*4294967296+a[c]=w:=⟨_,rfl⟩
  rw[D] at O G
  have hqB:w/b<4294967296:=Nat.div_lt_of_lt_mul O
  have hdm:=Nat.div_add_mod w b
  obtain⟨S',S2,q1,q2,q3,q4,q5⟩:=xA (t:=t) (o:=o) I A T B c fuel (S.set c (w/b)) (w%b) (by omega) (by omega) (Cx hS hqB c) (by simpa using F) (Nat.mod_lt _ A) (by
   rw[Ave (by omega),val,eP k,Nat.add_mul,Nat.mul_assoc,←C,Nat.mul_add,Nat.mul_comm (w/b)]
   omega)
  refine⟨S',S2,q1,q2,q3,q4,fun K=>?_⟩
  rw[D9];unfold J9
  rw[show(((c+1:Nat):Int) - 1)=(c:Int) by omega,show decide ((c:Int)≥0)=true by simp,ct,Aa k,ct,aH k,Jk (show b<18446744073709551616 by omega),Aj9 (by omega),cf,ct,Aln (by omega),ct,cf,Jk (show a[c]<18446744073709551616 by omega),Ba7 hrB ac,D,kW,eO,Jk (show w/b<18446744073709551616 by omega),A14 hqB,cQ,i64 (by omega)]
  exact q5 K
theorem Avf {N:Nat} {a:List Nat} {n:Nat} {t o:Bool} {b:Nat} (hn:n=a.length) (B:Al a) (k:0<b) (C:b<4294967296) (A:fit a.length N) :
  ∃ S' S2,Al S'∧val S'=val a/b∧Al S2∧val S2=val a%b∧∀ K:Nat→Nat→LA→LA→Option R,Gp N (Ae a) n t o (b:Int) K=K (Ar (val a/b)).length (Ar (val a%b)).length (Ae S') (Ae S2):=by
 subst hn
 have M:=A.1;have O:=A.2
 obtain⟨S',S2,D,F,G,I,L⟩:=xA (R:=R) (t:=t) (o:=o) B k C A a.length N (List.replicate a.length 0) 0 (by omega) (Nat.le_refl _) (Cu _) (by simp) k (by rw[List.drop_eq_nil_of_le (by simp),List.drop_eq_nil_of_le (by simp)];simp[val])
 refine⟨S',S2,D,F,G,I,fun K=>?_⟩
 rw[BC];unfold P6
 rw[A6c (by omega),ct,i64 (by omega),Da]
 exact L K
theorem A7d {x V s:Nat} (C:x<4294967296) (hs:s≤31):(x+4294967296*V)/2 ^ s=(x+4294967296*(V%4294967296))/2 ^ s%4294967296+4294967296*(V/2 ^ s):=by
 have k:0<2 ^ s:=Nat.pow_pos (by omega)
 have B:2 ^ s∣4294967296:=⟨2 ^ (32 - s),by rw[←Nat.pow_add,show s+(32 - s)=32 by omega]⟩
 have key:∀ W,(x+4294967296*W)/2 ^ s=(x+4294967296*(W%2 ^ s))/2 ^ s+4294967296*(W/2 ^ s):=by
  intro W
  have e:x+4294967296*W=x+4294967296*(W%2 ^ s)+2 ^ s*(4294967296*(W/2 ^ s)):=by
   have h:=Nat.div_add_mod W (2 ^ s)
   have:4294967296*W=4294967296*(2 ^ s*(W/2 ^ s)+W%2 ^ s):=by rw[h]
   rw[this,Nat.mul_add,Nat.mul_left_comm];omega
  rw[e,Nat.add_mul_div_left _ _ k]
 have A:(x+4294967296*(V%2 ^ s))/2 ^ s<4294967296:=by
  rw[Nat.div_lt_iff_lt_mul k]
  have:V%2 ^ s+1≤2 ^ s:=Nat.mod_lt _ k
  have:=Nat.mul_le_mul_left 4294967296 this
  rw[Nat.mul_add] at this
  omega
 rw[key V,key (V%4294967296),Nat.mod_mod_of_dvd _ B,Nat.add_mul_mod_self_left,Nat.mod_eq_of_lt A]
theorem A81:∀ {l:List Nat},Al l→val l%4294967296=l.getD 0 0
 | [],_=>rfl
 | x::r,h=>by
  have:=(Dq.1 h).1
  simp[val];omega
theorem Avg {N:Nat} {a:List Nat} {o:Bool} {s:Nat} (C:Al a) (hs:s≤31) (D:fit a.length N):∀ (m d fuel:Nat) (S:List Nat),d+m=a.length→m<fuel→Al S→S.length=a.length→A49 S d→val S+4294967296 ^ d*(val (a.drop d)/2 ^ s)=val a/2 ^ s →
  ∃ S',Al S'∧val S'=val a/2 ^ s∧∀ K:Nat→Bool→LA→Option R,Dk N K o fuel (Ae a) a.length (s:Int) a.length (Ae a) a.length (a.length:Int) (d:Int) (Ae S)=K (Ar (val a/2 ^ s)).length true (Ae S')
 | 0,d,fuel+1,S,T,_,hS,F,G,B=>by
  have I:d=a.length:=by omega
  subst I
  rw[List.drop_length] at B
  simp[val] at B
  refine⟨S,hS,B,fun K=>?_⟩
  rw[Dk];unfold I8
  rw[Lb (Nat.le_refl _),cf,OP F.symm hS (by rw[F];exact D),B]
 | m+1,d,fuel+1,S,T,U,hS,F,G,B=>by
  have h1:=D.1;have h2:=D.2
  have k:d<a.length:=by omega
  have ad:=Bc C k
  have step:=A7d (V:=val (a.drop (d+1))) ad hs
  rw[A81 (SX C _),←eP k] at step
  have Y:(a.drop (d+1)).getD 0 0=a.getD (d+1) 0:=by simp[List.getD_eq_getElem?_getD,List.getElem?_drop]
  rw[Y] at step
  have go:∀ w,(a[d]+4294967296*a.getD (d+1) 0)/2 ^ s=w→∃ S',Al S'∧val S'=val a/2 ^ s∧∀ K:Nat→Bool→LA→Option R,Dk N K o fuel (Ae a) a.length (s:Int) a.length (Ae a) a.length (a.length:Int) ((d+1:Nat):Int) (Ae (S.set d (w%4294967296)))=K (Ar (val a/2 ^ s)).length true (Ae S'):=by
   intro w hw
   refine Avg (o:=o) C hs D m (d+1) fuel (S.set d (w%4294967296)) (by omega) (by omega) (Cx hS (by omega) d) (by simpa using F) (KZ G) ?_
   rw[Xr G (by omega),←B,step,hw,Nat.pow_succ,Nat.mul_add,Nat.mul_assoc];omega
  by_cases hn:d+1<a.length
  ·have an:=Bc C hn
   have A:a.getD (d+1) 0=a[d+1]:=by rw[List.getD_eq_getElem?_getD,List.getElem?_eq_getElem hn];rfl
   rw[A] at go
   obtain⟨S',L,M,O⟩:=go _ rfl
   refine⟨S',L,M,fun K=>?_⟩
   rw[Dk];unfold I8
   have e:Ta .u64 ((a[d]:Nat):Int) (IntKind.wrap .u64 (((a[d+1]:Nat):Int)*2 ^ 32))=((a[d]+4294967296*a[d+1]:Nat):Int):=by
    rw[show(2:Int) ^ 32=((2 ^ 32:Nat):Int) by rfl,Aay,Jk (by omega),Ayd (by omega) (by omega),Nat.or_comm,sJ (by omega)]
    congr 1;omega
   rw[Jp k,ct,Aa k,ct,aH k,wS (by omega),Jp hn,ct,Aa hn,ct,aH hn,show decide (((s:Nat):Int)<0)=false by simp,cf,ct,Aln (by omega),ct,Jk (show a[d]<18446744073709551616 by omega),Jk (show a[d+1]<18446744073709551616 by omega),e,Int.toNat_natCast s,Nat.min_eq_left (by omega),T3,l7,cQ]
   exact O K
  ·have A:a.getD (d+1) 0=0:=by rw[List.getD_eq_getElem?_getD,List.getElem?_eq_none (by omega)];rfl
   rw[A,Nat.mul_zero,Nat.add_zero] at go
   obtain⟨S',L,M,O⟩:=go _ rfl
   refine⟨S',L,M,fun K=>?_⟩
   rw[Dk];unfold I8
   rw[Jp k,ct,Aa k,ct,aH k,wS (by omega),Lb (by omega),cf,show decide (((s:Nat):Int)<0)=false by simp,cf,ct,Aln (by omega),ct,Jk (show a[d]<18446744073709551616 by omega),Int.toNat_natCast s,Nat.min_eq_left (by omega),T3,l7,cQ]
   exact O K
theorem A7e {N:Nat} {a:List Nat} {n:Nat} {t o:Bool} {s:Nat} (hn:n=a.length) (A:Al a) (hs:s≤31) (k:fit a.length N) :
  ∃ S',Al S'∧val S'=val a/2 ^ s∧∀ K:Nat→Bool→LA→Option R,Ne N (Ae a) n t o (s:Int) K=K (Ar (val a/2 ^ s)).length true (Ae S'):=by
 have L:=k.1;have M:=k.2
 have la:=(Bu A).2
 have C:IntKind.wrap .i64 (Int.tdiv ((s:Nat):Int) 32)=((0:Nat):Int):=by
  rw[show(32:Int)=((32:Nat):Int) by rfl,kW,Nat.div_eq_of_lt (by omega)];decide
 have e1:Int.tmod ((s:Nat):Int) 32=(s:Int):=by rw[show(32:Int)=((32:Nat):Int) by rfl,eO,Nat.mod_eq_of_lt (by omega)]
 by_cases B:val a=0
 ·refine⟨[],V9,by rw[B];simp[val],fun K=>?_⟩
  rw[Ui];unfold Ol
  rw[show decide (((s:Nat):Int)<0)=false by simp,cf,Ca hn A k,B,C,Nat.zero_div,Ea];rfl
 ·obtain⟨S',F,D,G⟩:=Avg (R:=R) (o:=o) (a:=Ar (val a)) (Ac _) hs (k.le la) (Ar (val a)).length 0 N (List.replicate (Ar (val a)).length 0) (by omega) (by omega) (Cu _) (by simp) (Ni _) (by rw[Em];simp)
  rw[Aj] at D
  refine⟨S',F,D,fun K=>?_⟩
  rw[Ui];unfold Ol
  have I:(Ar (val a)).length≠0:=fun h=>B (By.1 h)
  rw[show decide (((s:Nat):Int)<0)=false by simp,cf,Ca hn A k,C,e1,show decide (((0:Nat):Int)≥(((Ar (val a)).length:Nat):Int))=false by rw[decide_eq_false_iff_not];omega,cf]
  have c1:((decide ((0:Int)≤((0:Nat):Int)))&&((decide (((0:Nat):Int)≤(((Ar (val a)).length:Nat):Int)))&&((decide ((((Ar (val a)).length:Nat):Int)≤(((Ar (val a)).length:Nat):Int)))&&(decide ((((Ar (val a)).length:Nat):Int)≤(((Ar (val a)).length:Nat):Int))))))=true:=by simp
  rw[c1,ct,Int.toNat_natCast,Nat.sub_zero,A6c (by omega),ct,Nat.zero_mul,List.drop_zero,Nat.mul_one,Wa,List.take_length,Da]
  have:=G K
  rw[Aj] at this
  exact this
end
end Gx

namespace Gx
open Go Go.Proofs
section
variable {R:Type}
theorem UQ {S:List Nat} {k:Nat} (h:val S<4294967296 ^ k):val (S.take k)=val S:=by
 by_cases C:k≤S.length
 ·have A:=Sb (S.take k) (S.drop k)
  rw[List.take_append_drop,List.length_take,Nat.min_eq_left C] at A
  rcases Nat.eq_zero_or_pos (val (S.drop k)) with B | B
  ·rw[B] at A;simpa using A.symm
  ·have:=Nat.le_mul_of_pos_right (4294967296 ^ k) B
   omega
 ·rw[List.take_of_length_le (by omega)]
theorem UR {S:List Nat} {n:Nat} (hS:Al S) (h:S.length=n+1):val S<(S[n]+1)*4294967296 ^ n:=by
 have A:=P_ h
 have k:=Bm (Co hS n)
 rw[List.length_take,Nat.min_eq_left (by omega)] at k
 rw[Nat.add_mul,Nat.mul_comm S[n]];omega
theorem Bd0 {a b c:Nat} (k:a≤b) (A:b≤c):((decide ((0:Int)≤(a:Int)))&&((decide ((a:Int)≤(b:Int)))&&((decide ((b:Int)≤(c:Int)))&&(decide ((c:Int)≤(c:Int))))))=true:=by simp;omega
theorem Anl {N:Nat} {v u0 Sv:List Nat} {n D s:Nat} (hn:v.length=n+2) (V:Al v) (L:2147483648≤v[n+1]'(by omega)) (hSv:List.take ((n+2)*1) (Ae Sv)=Ae v) (hu:Al u0) (hul:u0.length=D+(n+2)) (hs:s≤31) (F:fit (D+n+4) N) :
  ∀ (j fuel c:Nat) (W q:List Nat),j<fuel→c+j=D→Al W→W.length=u0.length→Al q→q.length=D→W.take j=u0.take j→val (W.drop j)<val v→val (q.drop j)*val v+val (W.drop j)=val (u0.drop j) →
  ∃ Sq Sr,Al Sq∧val Sq=val u0/val v∧Al Sr∧val Sr=val u0%val v/2 ^ s∧∀ K:Nat→Nat→LA→LA→Option R,Ed N K (s:Int) (n+2) u0.length (Ae Sv) fuel D ((n+2:Nat):Int) (D:Int) (D:Int) (c:Int) (Ae q) (Ae W)=K (Ar (val u0/val v)).length (Ar (val u0%val v/2 ^ s)).length (Ae Sq) (Ae Sr)
 | 0,fuel+1,c,W,q,_,hc,hW,hWl,Y,B,G,hr,A=>by
  have h1:=F.1;have h2:=F.2
  simp only[List.drop_zero] at A hr
  have I:0<val v:=by omega
  have vlt:=Bm V
  rw[hn] at vlt
  have M:val u0/val v=val q:=by rw[←A,Nat.mul_comm,Nat.mul_add_div I,Nat.div_eq_of_lt hr,Nat.add_zero]
  have hm:val u0%val v=val W:=by rw[←A,Nat.mul_comm,Nat.mul_add_mod,Nat.mod_eq_of_lt hr]
  have ht:val (W.take (n+2))=val W:=UQ (by omega)
  have O:(W.take (n+2)).length=n+2:=by rw[List.length_take];omega
  obtain⟨S',q1,q3,q4⟩:=A7e (R:=R) (N:=N) (a:=W.take (n+2)) (n:=n+2) (t:=false) (o:=true) (s:=s) O.symm (Co hW _) hs (F.le (by rw[O];omega))
  rw[ht,←hm] at q3 q4
  refine⟨q,S',Y,M.symm,q1,q3,fun K=>?_⟩
  have hcD:c=D:=by omega
  subst hcD
  rw[Ed];unfold Ny
  rw[Lb (Nat.le_refl _),cf,Bab (by omega),ct,Int.toNat_natCast,Nat.mul_one,Wa,q4,OP B.symm Y (by rw[B];exact F.le (by omega)),←M]
 | j+1,fuel+1,c,W,q,hfu,hc,hW,hWl,Y,B,G,hr,A=>by
  have h1:=F.1;have h2:=F.2
  have vlt:=Bm V
  rw[hn] at vlt
  have hjW:j<W.length:=by omega
  have T:j<u0.length:=by omega
  have hjq:j<q.length:=by omega
  have hWj:W[j]=u0[j]:=by
   have:=congrArg (fun l=>l[j]?) G
   simp only[List.getElem?_take_of_lt (show j<j+1 by omega),List.getElem?_eq_getElem hjW,List.getElem?_eq_getElem T] at this
   exact Option.some.inj this
  have wj:=Bc hW hjW
  have eW:=eP hjW
  have eu:=eP T
  have hUl:((W.drop j).take (n+3)).length=n+3:=by rw[List.length_take,List.length_drop];omega
  have k:val (W.drop j)<val v*4294967296:=by rw[eW];omega
  have hB:val (W.drop j)<4294967296 ^ (n+3):=by
   have:=(Nat.mul_lt_mul_right (show 0<4294967296 by omega)).2 vlt
   rw[←Nat.pow_succ] at this;exact Nat.lt_trans k this
  have hU:val ((W.drop j).take (n+3))=val (W.drop j):=UQ hB
  have C:W=W.take j++((W.drop j).take (n+3)++(W.drop j).drop (n+3)):=by rw[List.take_append_drop,List.take_append_drop]
  have hPl:(W.take j).length=j:=by rw[List.length_take];omega
  obtain⟨U',u1,u2,u3,u4⟩:=Af7 (R:=R) (N:=N) (P:=W.take j) (Q:=(W.drop j).drop (n+3)) (U:=(W.drop j).take (n+3)) (v:=v) (n:=n) (f:=false) (g:=true) hn V (Co (SX hW _) _) hUl (by omega) (by omega) L (by rw[hU];exact k)
  rw[hU] at u3 u4
  have hQ0:val ((W.drop j).drop (n+3))=0:=by
   have:=Sb ((W.drop j).take (n+3)) ((W.drop j).drop (n+3))
   rw[List.take_append_drop,hU,hUl] at this
   have hp:0<4294967296 ^ (n+3):=Nat.pow_pos (by omega)
   rcases Nat.eq_zero_or_pos (val ((W.drop j).drop (n+3))) with h | h
   ·exact h
   ·have:=Nat.le_mul_of_pos_right (4294967296 ^ (n+3)) h;omega
  have I:0<val v:=by omega
  have hqd:val (W.drop j)/val v<4294967296:=Nat.div_lt_of_lt_mul k
  have hdm:=Nat.div_add_mod (val (W.drop j)) (val v)
  have hmd:=Nat.mod_lt (val (W.drop j)) I
  have hW':Al (W.take j++(U'++(W.drop j).drop (n+3))):=nc.2 ⟨Co hW _,nc.2 ⟨u1,SX (SX hW _) _⟩⟩
  have hWl':(W.take j++(U'++(W.drop j).drop (n+3))).length=u0.length:=by
   rw[List.length_append,List.length_append,hPl,u2,List.length_drop,List.length_drop];omega
  have hWd:(W.take j++(U'++(W.drop j).drop (n+3))).drop j=U'++(W.drop j).drop (n+3):=by
   rw[List.drop_append,hPl,Nat.sub_self,List.drop_zero,List.drop_eq_nil_of_le (by omega),List.nil_append]
  have hWt:(W.take j++(U'++(W.drop j).drop (n+3))).take j=u0.take j:=by
   rw[List.take_append,hPl,Nat.sub_self,List.take_zero,List.append_nil,List.take_take,Nat.min_self]
   have:=congrArg (List.take j) G
   rwa [List.take_take,List.take_take,Nat.min_eq_left (by omega)] at this
  have hWv:val (U'++(W.drop j).drop (n+3))=val (W.drop j)%val v:=by rw[Sb,hQ0,u3];simp
  obtain⟨Sq,Sr,a1,a2,a3,a4,a5⟩:=Anl (N:=N) hn V L hSv hu hul hs F j fuel (c+1) (W.take j++(U'++(W.drop j).drop (n+3))) (q.set j (val (W.drop j)/val v)) (by omega) (by omega) hW' hWl' (Cx Y hqd j) (by simpa using B) hWt (by rw[hWd,hWv];exact hmd) (by
   rw[hWd,hWv,Ave hjq,val,eu,←A,←hWj,Nat.add_mul,Nat.mul_assoc,Nat.mul_add,Nat.mul_comm (val (W.drop j)/val v)]
   omega)
  refine⟨Sq,Sr,a1,a2,a3,a4,fun K=>?_⟩
  have w0:IntKind.wrap .i64 (IntKind.wrap .i64 (((D:Nat):Int) - 1) - (c:Int))=(j:Int):=by
   rw[i64 (a:=((D:Nat):Int) - 1) (by omega),i64 (by omega)];omega
  have w1:IntKind.wrap .i64 (IntKind.wrap .i64 ((j:Int)+((n+2:Nat):Int))+1)=((j+(n+3):Nat):Int):=by
   rw[i64 (a:=(j:Int)+((n+2:Nat):Int)) (by omega),i64 (by omega)];omega
  have:=u4 fun z aa=>cond (Ad (j:Int) D) (cond ((Nat.beq 1 1)&&((Nat.ble ((0+((Int.toNat (j:Int))*1))+1) (List.length (Ae q)))&&(!false))) (Ed N K (s:Int) (n+2) u0.length (Ae Sv) fuel D ((n+2:Nat):Int) (D:Int) (D:Int) (IntKind.wrap .i64 ((c:Int)+1)) (List.set (Ae q) (0+((Int.toNat (j:Int))*1)) (.int .u32 z)) aa) none) none
  rw[←C,hPl] at this
  rw[Ed];unfold Ny
  rw[Jp (by omega),ct,w0,w1,Bd0 (by omega) (by omega),ct,hSv,Int.toNat_natCast,Int.toNat_natCast,Nat.mul_one,Nat.zero_add,show j+(n+3) - j=n+3 by omega]
  rw[Int.toNat_natCast,Nat.mul_one,Nat.zero_add] at this
  rw[this,Aa (by omega),ct,show((Nat.beq 1 1)&&((Nat.ble (j+1) (List.length (Ae q)))&&(!false)))=true by (rw[B7];simp;omega),ct,nf,wS (by omega)]
  exact a5 K
theorem A5a {N:Nat} {a b:List Nat} {n m:Nat} {t o t' o':Bool} (hn:n=a.length) (hm:m=b.length) (V:Al a) (T:Al b) (I:2≤b.length) (Y:b.length≤a.length) (B:b.getLast (by intro h;rw[h] at I;simp at I)≠0) (L:fit (a.length+b.length+4) N) :
  ∃ Sq Sr,Al Sq∧val Sq=val a/val b∧Al Sr∧val Sr=val a%val b∧∀ K:Nat→Nat→LA→LA→Option R,Jt N (Ae a) n t o (Ae b) m t' o' K=K (Ar (val a/val b)).length (Ar (val a%val b)).length (Ae Sq) (Ae Sr):=by
 subst hn hm
 have h1:=L.1;have h2:=L.2
 obtain⟨k,O⟩:∃ k,b.length=k+2:=⟨b.length - 2,by omega⟩
 have hbl2:b[k+1]'(by omega)≠0:=by
  rw[List.getLast_eq_getElem] at B
  simp only[O] at B
  exact B
 have bk:=Bc T (show k+1<b.length by omega)
 obtain⟨s,s1,s2,s3,s4⟩:=A18 (R:=R) (N:=N) (c:=b[k+1]'(by omega)) (by omega) bk
 obtain⟨Sv,v1,v2,v3,v4⟩:=qG (R:=R) (N:=N) (a:=b) (t:=false) (o:=o') (s:=s) rfl T s1 (L.le (by omega))
 obtain⟨Su,p1,p2,U,p4⟩:=qG (R:=R) (N:=N) (a:=a) (t:=false) (o:=o) (s:=s) rfl V s1 (L.le (by omega))
 have S:0<2 ^ s:=Nat.pow_pos (by omega)
 have hP:0<4294967296 ^ (k+1):=Nat.pow_pos (by omega)
 have bt:=UR T O
 have bf:=P_ O
 have hVlt:val b*2 ^ s<4294967296 ^ (k+2):=by
  have x1:val b*2 ^ s<(b[k+1]+1)*4294967296 ^ (k+1)*2 ^ s:=(Nat.mul_lt_mul_right S).2 bt
  have hd:2 ^ s∣4294967296:=⟨2 ^ (32 - s),by rw[←Nat.pow_add,show s+(32 - s)=32 by omega]⟩
  have x2:(b[k+1]+1)*2 ^ s≤4294967296:=by
   obtain⟨r,hr⟩:=hd
   have x3:b[k+1]<r:=by
    rw[hr,Nat.mul_comm] at s3
    exact Nat.lt_of_mul_lt_mul_left s3
   have x4:(b[k+1]+1)*2 ^ s≤r*2 ^ s:=Nat.mul_le_mul_right _ x3
   have x5:r*2 ^ s=4294967296:=by rw[Nat.mul_comm];exact hr.symm
   omega
  have x6:=Nat.mul_le_mul_right (4294967296 ^ (k+1)) x2
  rw[Nat.mul_right_comm] at x1
  rw[Nat.pow_succ,Nat.mul_comm _ 4294967296]
  exact Nat.lt_of_lt_of_le x1 x6
 have M:(Sv.take (k+2)).length=k+2:=by rw[List.length_take];omega
 have A:val (Sv.take (k+2))=val b*2 ^ s:=by rw[UQ (by rw[v3];exact hVlt),v3]
 have C:2147483648*4294967296 ^ (k+1)≤val b*2 ^ s:=by
  have x1:4294967296 ^ (k+1)*b[k+1]≤val b:=by omega
  have x2:=Nat.mul_le_mul_right (2 ^ s) x1
  rw[Nat.mul_assoc,Nat.mul_comm (4294967296 ^ (k+1))] at x2
  have x3:=Nat.mul_le_mul_right (4294967296 ^ (k+1)) s2
  omega
 have F:2147483648≤(Sv.take (k+2))[k+1]'(by omega):=by
  have x1:=UR (Co v1 (k+2)) M
  rw[A] at x1
  have x2:=Nat.lt_of_mul_lt_mul_right (Nat.lt_of_le_of_lt C x1)
  omega
 have hDl:Su.length=(a.length+1 - (k+2))+(k+2):=by omega
 have G:val (Su.drop (a.length+1 - (k+2)))<val (Sv.take (k+2)):=by
  have x1:=Sb (Su.take (a.length+1 - (k+2))) (Su.drop (a.length+1 - (k+2)))
  rw[List.take_append_drop,U,List.length_take,Nat.min_eq_left (by omega)] at x1
  have x2:=Bm V
  have x3:val a*2 ^ s<4294967296 ^ a.length*2 ^ s:=(Nat.mul_lt_mul_right S).2 x2
  have x4:a.length=(a.length+1 - (k+2))+(k+1):=by omega
  generalize hE:a.length+1 - (k+2)=E at *
  have x5:4294967296 ^ a.length=4294967296 ^ E*4294967296 ^ (k+1):=by rw[←Nat.pow_add];congr 1
  rw[x5,Nat.mul_assoc] at x3
  have x6:4294967296 ^ E*val (Su.drop E)<4294967296 ^ E*(4294967296 ^ (k+1)*2 ^ s):=by omega
  have x7:=Nat.lt_of_mul_lt_mul_left x6
  have x8:4294967296 ^ (k+1)*2 ^ s≤2147483648*4294967296 ^ (k+1):=by rw[Nat.mul_comm];exact Nat.mul_le_mul_right _ (Aq2 s1)
  rw[A];omega
 obtain⟨Sq,Sr,a1,a2,a3,a4,a5⟩:=Anl (R:=R) (N:=N) (v:=Sv.take (k+2)) (u0:=Su) (Sv:=Sv) (n:=k) (D:=a.length+1 - (k+2)) (s:=s) M (Co v1 _) F (by rw[Nat.mul_one,Wa]) p1 hDl s1 (L.le (by omega)) (a.length+1 - (k+2)) N 0 Su (List.replicate (a.length+1 - (k+2)) 0) (by omega) (by omega) p1 rfl (Cu _) (by simp) rfl G (by
  rw[List.drop_eq_nil_of_le (show(List.replicate (a.length+1 - (k+2)) 0).length≤a.length+1 - (k+2) by simp)];simp[val])
 have hq:val Su/val (Sv.take (k+2))=val a/val b:=by rw[U,A,Nat.mul_div_mul_right _ _ S]
 have hr:val Su%val (Sv.take (k+2))/2 ^ s=val a%val b:=by rw[U,A,Nat.mul_mod_mul_right,Nat.mul_div_cancel _ S]
 rw[hq] at a2;rw[hr] at a4
 refine⟨Sq,Sr,a1,a2,a3,a4,fun K=>?_⟩
 rw[KC];unfold Uj
 have w1:IntKind.wrap .i64 (((b.length:Nat):Int) - 1)=((k+1:Nat):Int):=by rw[i64 (by omega)];omega
 have w2:IntKind.wrap .i64 (((a.length+1:Nat):Int) - ((b.length:Nat):Int))=((a.length+1 - (k+2):Nat):Int):=by rw[i64 (by omega)];omega
 rw[w1,Aa (by omega),ct,aH (by omega),s4,v4,Bab (by omega),ct,p4,w2,A6c (by omega),ct,Int.toNat_natCast,Da]
 have:=a5 K
 rw[hq,hr,p2] at this
 rw[O]
 exact this
theorem eQ {N:Nat} {a b:List Nat} {n m:Nat} {t o t' o':Bool} (hn:n=a.length) (Y:m=b.length) (U:Al a) (V:Al b) (D:val b≠0) (B:fit (a.length+b.length+4) N) :
  ∃ Sq Sr,Al Sq∧val Sq=val a/val b∧Al Sr∧val Sr=val a%val b∧∀ K:Nat→Nat→Bool→LA→LA→Option R,E6 N (Ae a) n t o (Ae b) m t' o' K=K (Ar (val a/val b)).length (Ar (val a%val b)).length true (Ae Sq) (Ae Sr):=by
 have h1:=B.1;have h2:=B.2
 have la:=(Bu U).2
 have lb:=(Bu V).2
 have M:(Ar (val b)).length≠0:=fun h=>D (By.1 h)
 have start:∀ K:Nat→Nat→Bool→LA→LA→Option R,E6 N (Ae a) n t o (Ae b) m t' o' K=cond (decide (Ih (val a) (val b)<0)) (Xj N (Ae (Ar (val a))) (Ar (val a)).length false o (fun s t=>(K 0 s true [] t))) (cond (decide ((((Ar (val a)).length:Nat):Int)≤(2:Int))) (Rs N (Ae (Ar (val a))) (Ar (val a)).length false o (fun p=>(Rs N (Ae (Ar (val b))) (Ar (val b)).length false o' (fun o=>(cond (o==(0:Int)) none (Bw N (IntKind.wrap .u64 (Int.tdiv p o)) (fun u w=>(cond (o==(0:Int)) none (Bw N (Int.tmod p o) (fun x y=>(K u x true w y))))))))))) (cond ((((Ar (val b)).length:Nat):Int)==(1:Int)) (cond (Ad (0:Int) (Ar (val b)).length) (Ao .u32 (Ae (Ar (val b))) fun z=>(Gp N (Ae (Ar (val a))) (Ar (val a)).length false o z (fun aa ab ac ad=>(K aa ab true ac ad)))) none) (Jt N (Ae (Ar (val a))) (Ar (val a)).length false o (Ae (Ar (val b))) (Ar (val b)).length false o' (fun ae af ag ah=>(K ae af true ag ah))))):=by
  intro K
  rw[jj];unfold mO
  rw[Ca hn U (B.le (by omega)),Ca Y V (B.le (by omega)),Aj9 M,cf,To rfl rfl (Ac _) (Ac _) (B.le (by omega)),Aj,Aj]
 by_cases k:val a<val b
 ·refine⟨[],Ar (val a),V9,by rw[Nat.div_eq_of_lt k];rfl,Ac _,by rw[Nat.mod_eq_of_lt k,Aj],fun K=>?_⟩
  rw[start,show decide (Ih (val a) (val b)<0)=true by (unfold Ih;rw[if_pos k];rfl),ct,ge rfl (Ac _) (B.le (by omega)),Aj,Nat.div_eq_of_lt k,Nat.mod_eq_of_lt k,Ea];rfl
 ·have A:decide (Ih (val a) (val b)<0)=false:=by unfold Ih;rw[if_neg k];split<;>rfl
  have F:=B9 (Nat.le_of_not_lt k)
  by_cases C:(Ar (val a)).length≤2
  ·have av:=qE C
   have bv:=qE (Nat.le_trans F C)
   have G:val a/val b<18446744073709551616:=Nat.lt_of_le_of_lt (Nat.div_le_self _ _) av
   have O:val a%val b<18446744073709551616:=Nat.lt_of_le_of_lt (Nat.mod_le _ _) av
   obtain⟨Sq,a1,a2,a3⟩:=Lx (R:=R) (N:=N) G (by omega)
   obtain⟨Sr,b1,b2,b3⟩:=Lx (R:=R) (N:=N) O (by omega)
   refine⟨Sq,Sr,a1,a2,b1,b2,fun K=>?_⟩
   rw[start,A,cf,show decide ((((Ar (val a)).length:Nat):Int)≤2)=true by simp;omega,ct,PZ rfl (Ac _) C (by omega),PZ rfl (Ac _) (by omega) (by omega),Aj,Aj,Aj9 D,cf,kW,Jk G,a3,cf,eO,b3]
  ·have I:decide ((((Ar (val a)).length:Nat):Int)≤2)=false:=by simp;omega
   by_cases S:(Ar (val b)).length=1
   ·obtain⟨x,T⟩:∃ x,Ar (val b)=[x]:=by
     match h:Ar (val b),S with
     | [x],_=>exact⟨x,rfl⟩
    have L:x=val b:=by have:=Aj (val b);rw[T] at this;simpa[val] using this
    have xl:x<4294967296:=by have:=Ac (val b);rw[T] at this;exact(Dq.1 this).1
    obtain⟨Sq,Sr,a1,a2,a3,a4,a5⟩:=Avf (R:=R) (N:=N) (a:=Ar (val a)) (t:=false) (o:=o) (b:=x) rfl (Ac _) (by omega) xl (B.le (by omega))
    rw[Aj,L] at a2 a4 a5
    refine⟨Sq,Sr,a1,a2,a3,a4,fun K=>?_⟩
    rw[start,A,cf,I,cf,T]
    simp only[List.length_cons,List.length_nil,DS,Az]
    rw[show((((0+1:Nat)):Int)==1)=true by rfl,ct,show Ad 0 (0+1)=true by decide,ct,L,a5]
   ·obtain⟨Sq,Sr,a1,a2,a3,a4,a5⟩:=A5a (R:=R) (N:=N) (a:=Ar (val a)) (b:=Ar (val b)) (t:=false) (o:=o) (t':=false) (o':=o') rfl rfl (Ac _) (Ac _) (by omega) F (Aax _ _) (B.le (by omega))
    rw[Aj,Aj] at a2 a4 a5
    refine⟨Sq,Sr,a1,a2,a3,a4,fun K=>?_⟩
    rw[start,A,cf,I,cf,show((((Ar (val b)).length:Nat):Int)==1)=false by rw[beq_eq_false_iff_ne];omega,cf,a5]
end
end Gx

namespace Gx
open Go Go.Proofs
section
variable {R:Type}
def Bcy (A B u0 u1 v0 v1:Nat) (e:Bool):Prop:=v0=0∨(1≤u1∧1≤v1∧match e with
 | true=>v0*B≤u0*A∧u1*A≤v1*B∧(v0+v1)*B≤(u0+u1)*A∧u0*v1=v0*u1+1
 | false=>u0*A≤v0*B∧v1*B≤u1*A∧(u0+u1)*A≤(v0+v1)*B∧u1*v0=v1*u0+1)
structure Lead (X Y x y u1 u2 v1 v2:Nat) (e:Bool):Prop where
 le:y≤x
 idV:x*v2+y*v1=X
 idU:x*u2+y*u1=Y
 pos:1≤v2
 par:match e with
  | false=>x+v1*Y=u1*X∧y+u2*X=v2*Y∧u1*v2=v1*u2+1
  | true=>x+u1*X=v1*Y∧y+v2*Y=u2*X∧u2*v1=v2*u1+1
 small:(v1=0∧u1=1∧u2=0∧v2=1∧e=false)∨(1≤v1∧u1≤v1∧u2≤v2∧1≤u2)
theorem Lead.init {X Y:Nat} (h:Y≤X):Lead X Y X Y 1 0 0 1 false:=⟨h,by simp,by simp,by omega,by simp,.inl ⟨rfl,rfl,rfl,rfl,rfl⟩⟩
theorem Lead.step {X Y x y u1 u2 v1 v2:Nat} {e:Bool} (L:Lead X Y x y u1 u2 v1 v2 e) (I:1≤y):Lead X Y y (x%y) u2 (u1+x/y*u2) v2 (v1+x/y*v2) (!e):=by
 have k:=Nat.div_add_mod x y
 have F:=Nat.mod_lt x (show 0<y by omega)
 have G:1≤x/y:=by rw[Nat.le_div_iff_mul_le (by omega)];have:=L.le;omega
 generalize x/y=q at *
 generalize x%y=r at *
 have A:=L.pos
 refine⟨by omega,?_,?_,?_,?_,?_⟩
 ·rw[←L.idV,←k,Nat.mul_add,Nat.add_mul,Nat.mul_assoc];omega
 ·rw[←L.idU,←k,Nat.mul_add,Nat.add_mul,Nat.mul_assoc];omega
 ·have:=Nat.mul_le_mul G A;omega
 ·have p:=L.par
  cases e with
  | false =>
   obtain⟨p1,p2,C⟩:=p
   refine⟨p2,?_,?_⟩
   ·have e1:q*(y+u2*X)=q*(v2*Y):=by rw[p2]
    rw[Nat.mul_add,←Nat.mul_assoc,←Nat.mul_assoc] at e1
    rw[Nat.mul_comm y q] at k
    rw[Nat.add_mul,Nat.add_mul];omega
   ·rw[Nat.add_mul,Nat.add_mul,Nat.mul_right_comm q u2,C];omega
  | true =>
   obtain⟨p1,p2,C⟩:=p
   refine⟨p2,?_,?_⟩
   ·have e1:q*(y+v2*Y)=q*(u2*X):=by rw[p2]
    rw[Nat.mul_add,←Nat.mul_assoc,←Nat.mul_assoc] at e1
    rw[Nat.mul_comm y q] at k
    rw[Nat.add_mul,Nat.add_mul];omega
   ·rw[Nat.mul_add,Nat.mul_add,C,Nat.mul_left_comm u2 q,Nat.mul_left_comm v2 q,Nat.mul_comm u2 v2];omega
 ·right
  rcases L.small with⟨s1,s2,B,D,_⟩ | ⟨s1,s2,B,D⟩
  ·subst s1 s2 B D;exact⟨by omega,by omega,by omega,by omega⟩
  ·have M:q*u2≤q*v2:=Nat.mul_le_mul_left _ B
   exact⟨A,B,by omega,by have:=Nat.mul_le_mul G D;omega⟩
theorem Lead.cof {X Y x y u1 u2 v1 v2 A B P:Nat} {e:Bool} (L:Lead X Y x y u1 u2 v1 v2 e) (hA:X*P≤A) (hA':A<(X+1)*P) (hB:Y*P≤B) (hB':B<(Y+1)*P) (c1:v2≤y) (C:v1+v2≤x - y):Bcy A B u1 u2 v1 v2 (!e):=by
 have p:=L.par
 have D:=L.le
 rcases L.small with⟨s1,_⟩ | ⟨s1,s2,G,F⟩
 ·exact .inl s1
 ·refine .inr ⟨F,L.pos,?_⟩
  cases e with
  | false =>
   obtain⟨p1,p2,k⟩:=p
   have n1:u2*A≤v2*B:=IT hB hA' (w:=y) (by omega) (by omega)
   have n2:(v1+v2)*B≤(u1+u2)*A:=IT hA hB' (w:=x - y) (by rw[Nat.add_mul,Nat.add_mul];omega) C
   refine⟨?_,n1,n2,k⟩
   rw[Nat.add_mul,Nat.add_mul] at n2;omega
  | true =>
   obtain⟨p1,p2,k⟩:=p
   have n1:v2*B≤u2*A:=IT hA hB' (w:=y) (by omega) (by omega)
   have n2:(u1+u2)*A≤(v1+v2)*B:=IT hB hA' (w:=x - y) (by rw[Nat.add_mul,Nat.add_mul];omega) (by omega)
   refine⟨?_,n1,n2,k⟩
   rw[Nat.add_mul,Nat.add_mul] at n2;omega
theorem eR {x y:Nat} (B:1≤y) (h:y≤x):2*(y*(x%y))≤x*y:=by
 have C:=Nat.div_add_mod x y
 have D:=Nat.mod_lt x (show 0<y by omega)
 have k:1≤x/y:=by rw[Nat.le_div_iff_mul_le (by omega)];omega
 have F:y*1≤y*(x/y):=Nat.mul_le_mul_left _ k
 have A:2*(x%y)≤x:=by omega
 have:=Nat.mul_le_mul_left y A
 rw[Nat.mul_comm x y,Nat.mul_left_comm];exact this
def A2b (u0 u1 v0 v1:Nat) (e:Bool):List AV:=[.int .u64 (u0:Int),.int .u64 (u1:Int),.int .u64 (v0:Int),.int .u64 (v1:Int),.bool e]
theorem A5b {N:Nat} {X Y A B P:Nat} (hX:X<18446744073709551616) (hYX:Y≤X) (hA:X*P≤A) (hA':A<(X+1)*P) (hB:Y*P≤B) (hB':B<(Y+1)*P):∀ (k fuel x y u0 u1 u2 v0 v1 v2:Nat) (e:Bool),k<fuel→x*y<2 ^ k→Lead X Y x y u1 u2 v1 v2 e→Bcy A B u0 u1 v0 v1 e→u0<18446744073709551616→u1<18446744073709551616→v0<18446744073709551616→v1<18446744073709551616 →
  ∃ (a1 a2 I G:Nat) (e':Bool),Bcy A B a1 a2 I G e'∧a1<18446744073709551616∧a2<18446744073709551616∧I<18446744073709551616∧G<18446744073709551616∧∀ K:LA→Option R,Eo N K fuel (x:Int) (y:Int) (u0:Int) (u1:Int) (u2:Int) (v0:Int) (v1:Int) (v2:Int) e=K (A2b a1 a2 I G e'):=by
 intro k
 induction k with
 | zero =>
  intro fuel x y u0 u1 u2 v0 v1 v2 e hf M L C I G b3 T
  obtain⟨fuel,rfl⟩:∃ F,fuel=F+1:=⟨fuel - 1,by omega⟩
  have S:y=0:=by
   rcases Nat.eq_zero_or_pos y with h | h
   ·exact h
   ·have h3:=Nat.mul_le_mul_left x (show 1≤y by omega)
    have h4:=L.le
    rw[Nat.pow_zero] at M
    omega
  refine⟨u0,u1,v0,v1,e,C,I,G,b3,T,fun K=>?_⟩
  rw[Eo];unfold Ko
  have:=L.pos
  rw[show decide ((y:Int)≥(v2:Int))=false by simp;omega];rfl
 | succ k ih =>
  intro fuel x y u0 u1 u2 v0 v1 v2 e hf M L C I G b3 T
  obtain⟨fuel,rfl⟩:∃ F,fuel=F+1:=⟨fuel - 1,by omega⟩
  have hv2:=L.pos
  have O:=L.le
  by_cases c1:v2≤y
  ·have S:1≤y:=by omega
   have hxX:x≤X:=by
    have:=Nat.mul_le_mul_left x hv2
    have:=L.idV;omega
   have hsum:v1+v2≤X:=by
    have h1:=Nat.mul_le_mul_right v2 (show 1≤x by omega)
    have h2:=Nat.mul_le_mul_right v1 S
    have:=L.idV;omega
   by_cases c2:v1+v2≤x - y
   ·have L':=L.step S
    have C':=L.cof hA hA' hB hB' c1 c2
    have i1:=L'.idV
    have i2:=L'.idU
    have w1:v1+x/y*v2≤X:=by
     have:=Nat.mul_le_mul_right (v1+x/y*v2) S;omega
    have w2:u1+x/y*u2≤Y:=by
     have:=Nat.mul_le_mul_right (u1+x/y*u2) S;omega
    have hu2:u2<18446744073709551616:=by
     have h1:=Nat.mul_le_mul_right u2 (show 1≤x by omega)
     have:=L.idU;omega
    have U:v2<18446744073709551616:=by omega
    have hlt:y*(x%y)<2 ^ k:=by
     have:=eR S O
     rw[Nat.pow_succ] at M;omega
    obtain⟨a1,a2,d1,d2,e',r1,r2,r3,r4,r5,r6⟩:=ih fuel y (x%y) u1 u2 (u1+x/y*u2) v1 v2 (v1+x/y*v2) (!e) (by omega) hlt L' C' G hu2 T U
    refine⟨a1,a2,d1,d2,e',r1,r2,r3,r4,r5,fun K=>?_⟩
    rw[Eo];unfold Ko
    have D:x<18446744073709551616:=by omega
    have V:x/y<18446744073709551616:=Nat.lt_of_le_of_lt (Nat.div_le_self _ _) D
    rw[show decide ((y:Int)≥(v2:Int))=true by simp;omega,show((true:Bool)==true)=true by rfl,ct,sH D O,N',Jk (show v1+v2<18446744073709551616 by omega),show decide (((x - y:Nat):Int)≥((v1+v2:Nat):Int))=true by rw[decide_eq_true_eq];omega,Axi,ct]
    unfold Xk
    dsimp only
    rw[Aj9 (by omega),cf,cf,kW,eO,Jk V,Aay,Aay,Jk (show x/y*u2<18446744073709551616 by omega),Jk (show x/y*v2<18446744073709551616 by omega),N',N',Jk (show u1+x/y*u2<18446744073709551616 by omega),Jk (show v1+x/y*v2<18446744073709551616 by omega)]
    exact r6 K
   ·refine⟨u0,u1,v0,v1,e,C,I,G,b3,T,fun K=>?_⟩
    rw[Eo];unfold Ko
    rw[show decide ((y:Int)≥(v2:Int))=true by simp;omega,show((true:Bool)==true)=true by rfl,ct,sH (by omega) O,N',Jk (show v1+v2<18446744073709551616 by omega),show decide (((x - y:Nat):Int)≥((v1+v2:Nat):Int))=false by rw[decide_eq_false_iff_not];omega,Axi,cf]
    rfl
  ·refine⟨u0,u1,v0,v1,e,C,I,G,b3,T,fun K=>?_⟩
   rw[Eo];unfold Ko
   rw[show decide ((y:Int)≥(v2:Int))=false by simp;omega];rfl
end
end Gx

namespace Gx
open Go Go.Proofs
section
variable {R:Type}
theorem tD {N:Nat} {a:List Nat} {n:Nat} {t o:Bool} {i:Nat} {K:Int→Option R} (hn:n=a.length) (k:Al a):I7 N (i:Int) (Ae a) n t o K=K ((a.getD i 0:Nat):Int):=by
 subst hn
 rw[O'];unfold MZ
 by_cases h:i<a.length
 ·have:=Bc k h
  rw[Jp h,ct,Aa h,ct,aH h,Jk (by omega),List.getD_eq_getElem?_getD,List.getElem?_eq_getElem h];rfl
 ·rw[Lb (by omega),cf,List.getD_eq_getElem?_getD,List.getElem?_eq_none (by omega)];rfl
theorem EB {a:List Nat} (k:Al a) (i:Nat):a.getD i 0<4294967296:=by
 by_cases h:i<a.length
 ·rw[List.getD_eq_getElem?_getD,List.getElem?_eq_getElem h];exact Bc k h
 ·rw[List.getD_eq_getElem?_getD,List.getElem?_eq_none (by omega)];simp
theorem A7f {a:List Nat} {n:Nat} (C:a.length≤n+3):val a=val (a.take n)+4294967296 ^ n*((a.getD (n+2) 0*4294967296+a.getD (n+1) 0)*4294967296+a.getD n 0):=by
 have k:=Tp a (n+2)
 have A:=Tp a (n+1)
 have B:=Tp a n
 rw[List.take_of_length_le (by omega)] at k
 have x1:4294967296 ^ (n+2)*a.getD (n+2) 0=4294967296 ^ n*(a.getD (n+2) 0*4294967296*4294967296):=by rw[Nat.pow_succ (n:=4294967296) (m:=n+1),Nat.pow_succ,Bb9,Bb9]
 have x2:4294967296 ^ (n+1)*a.getD (n+1) 0=4294967296 ^ n*(a.getD (n+1) 0*4294967296):=by rw[Nat.pow_succ,Bb9]
 rw[k,A,B,x1,x2,Nat.add_mul,Nat.mul_add,Nat.mul_add];omega
theorem xB {N:Nat} {a:List Nat} {m n s:Nat} {t o:Bool} {K:Int→Option R} (F:m=a.length) (B:Al a) (T:a.length≤n+3) (hs:s≤31) (A:a.getD (n+2) 0*2 ^ s<4294967296) (hn:n≤1000000000000) :
  Wk N (Ae a) m t o ((n+3:Nat):Int) (s:Int) K=K ((val a/(4294967296 ^ n*2 ^ (32 - s)):Nat):Int)∧val a/(4294967296 ^ n*2 ^ (32 - s))<18446744073709551616:=by
 have U:0<2 ^ s:=Nat.pow_pos (by omega)
 have C:0<2 ^ (32 - s):=Nat.pow_pos (by omega)
 have hP:0<4294967296 ^ n:=Nat.pow_pos (by omega)
 have k:2 ^ s*2 ^ (32 - s)=4294967296:=by rw[←Nat.pow_add,show s+(32 - s)=32 by omega]
 have V:=EB B (n+2)
 have Y:=EB B (n+1)
 have b2:=EB B n
 have tk:=Bm (Co B n)
 have Aka:val (a.take n)<4294967296 ^ n:=by
  refine Nat.lt_of_lt_of_le tk (Nat.pow_le_pow_right (by omega) ?_)
  rw[List.length_take];omega
 have hv:=A7f T
 generalize G:a.getD (n+2) 0=a0 at *
 generalize I:a.getD (n+1) 0=a1 at *
 generalize L:a.getD n 0=a2 at *
 have M:a0<2 ^ (32 - s):=by
  rw[←k,Nat.mul_comm] at A;exact Nat.lt_of_mul_lt_mul_left A
 have D:(a0*4294967296+a1)*2 ^ s<18446744073709551616:=by
  have x1:(a0+1)*4294967296≤2 ^ (32 - s)*4294967296:=Nat.mul_le_mul_right _ M
  have x2:a0*4294967296+a1<2 ^ (32 - s)*4294967296:=by rw[Nat.add_mul] at x1;omega
  have x3:=(Nat.mul_lt_mul_right U).2 x2
  rw[Nat.mul_right_comm,Nat.mul_comm (2 ^ (32 - s)),k] at x3
  exact x3
 have O:a2/2 ^ (32 - s)<2 ^ s:=by
  rw[Nat.div_lt_iff_lt_mul C,k];exact b2
 have hq:val a/(4294967296 ^ n*2 ^ (32 - s))=(a0*4294967296+a1)*2 ^ s+a2/2 ^ (32 - s):=by
  rw[←Nat.div_div_eq_div_mul,hv,Nat.add_mul_div_left _ _ hP,Nat.div_eq_of_lt Aka,Nat.zero_add]
  have:(a0*4294967296+a1)*4294967296+a2=a2+2 ^ (32 - s)*((a0*4294967296+a1)*2 ^ s):=by
   rw[Nat.mul_left_comm,Nat.mul_comm (2 ^ (32 - s)),k];omega
  rw[this,Nat.add_mul_div_left _ _ C];omega
 have hb:(a0*4294967296+a1)*2 ^ s+a2/2 ^ (32 - s)<18446744073709551616:=by
  have S:2 ^ s*2 ^ (64 - s)=18446744073709551616:=by rw[←Nat.pow_add,show s+(64 - s)=64 by omega]
  obtain⟨r,hr⟩:∃ r,18446744073709551616=2 ^ s*r:=⟨2 ^ (64 - s),S.symm⟩
  rw[hr,Nat.mul_comm] at D
  have x1:=Nat.lt_of_mul_lt_mul_left D
  have x2:(a0*4294967296+a1+1)*2 ^ s≤r*2 ^ s:=Nat.mul_le_mul_right _ x1
  rw[Nat.add_mul,Nat.mul_comm r,←hr] at x2
  omega
 rw[hq]
 refine⟨?_,hb⟩
 rw[j7];unfold mI
 have w1:IntKind.wrap .i64 (((n+3:Nat):Int) - 1)=((n+2:Nat):Int):=by rw[i64 (by omega)];omega
 have w2:IntKind.wrap .i64 (((n+3:Nat):Int) - 2)=((n+1:Nat):Int):=by rw[i64 (by omega)];omega
 have w3:IntKind.wrap .i64 (((n+3:Nat):Int) - 3)=((n:Nat):Int):=by rw[i64 (by omega)];omega
 have w4:IntKind.wrap .i64 ((32:Int) - (s:Int))=((32 - s:Nat):Int):=by rw[i64 (by omega)];omega
 rw[w1,w2,w3,w4,tD F B,tD F B,show decide (((s:Nat):Int)<0)=false by simp,cf,tD F B,show decide (((32 - s:Nat):Int)<0)=false by simp,cf]
 rw[G,I,L,Ba7 V Y,Int.toNat_natCast,Int.toNat_natCast,Nat.min_eq_left (by omega),Nat.min_eq_left (by omega),T3,show(2:Int) ^ s=((2 ^ s:Nat):Int) by simp,Aay,Jk D,Ayd D (by omega),sJ O]
theorem Aq3 {N:Nat} {a b:List Nat} {n m:Nat} {t o t' o':Bool} (hn:n=a.length) (hm:m=b.length) (O:Al a) (hb:Al b) (G:3≤a.length) (D:a.getLast (by intro h;rw[h] at G;simp at G)≠0) (hlb:b.length≤a.length) (S:val b≤val a) (hf:fit a.length N) :
  ∃ (a1 a2 I L:Nat) (e:Bool),Bcy (val a) (val b) a1 a2 I L e∧a1<18446744073709551616∧a2<18446744073709551616∧I<18446744073709551616∧L<18446744073709551616∧∀ K:LA→Option R,Wl N (Ae a) n t o (Ae b) m t' o' K=K (A2b a1 a2 I L e):=by
 subst hn hm
 have h1:=hf.1;have h2:=hf.2
 obtain⟨k,hk⟩:∃ k,a.length=k+3:=⟨a.length - 3,by omega⟩
 have hla2:a[k+2]'(by omega)≠0:=by
  rw[List.getLast_eq_getElem] at D
  simp only[hk] at D
  exact D
 have ak:=Bc O (show k+2<a.length by omega)
 obtain⟨s,s1,s2,s3,s4⟩:=A18 (R:=R) (N:=N) (c:=a[k+2]'(by omega)) (by omega) ak
 have T:a.getD (k+2) 0=a[k+2]'(by omega):=by rw[List.getD_eq_getElem?_getD,List.getElem?_eq_getElem (by omega)];rfl
 have F:b.getD (k+2) 0≤a[k+2]'(by omega):=by
  apply Nat.le_of_not_lt;intro C
  have M:k+2<b.length:=by
   apply Nat.lt_of_not_le;intro U
   rw[List.getD_eq_getElem?_getD,List.getElem?_eq_none U] at C;simp at C
  have V:b.getD (k+2) 0=b[k+2]:=by rw[List.getD_eq_getElem?_getD,List.getElem?_eq_getElem M];rfl
  rw[V] at C
  have x1:=UR O (n:=k+2) (by omega)
  have x2:=Az3 M
  have x3:(a[k+2]+1)*4294967296 ^ (k+2)≤b[k+2]*4294967296 ^ (k+2):=Nat.mul_le_mul_right _ C
  rw[Nat.mul_comm] at x2
  omega
 have hbt:b.getD (k+2) 0*2 ^ s<4294967296:=Nat.lt_of_le_of_lt (Nat.mul_le_mul_right _ F) s3
 have hPP:0<4294967296 ^ k*2 ^ (32 - s):=Nat.mul_pos (Nat.pow_pos (by omega)) (Nat.pow_pos (by omega))
 have wa:=fun K=>xB (R:=R) (N:=N) (a:=a) (m:=a.length) (n:=k) (s:=s) (t:=false) (o:=o) (K:=K) rfl O (by omega) s1 (by rw[T];exact s3) (by omega)
 have wb:=fun K=>xB (R:=R) (N:=N) (a:=b) (m:=b.length) (n:=k) (s:=s) (t:=false) (o:=o') (K:=K) rfl hb (by omega) s1 hbt (by omega)
 have hX:=(wa fun _=>none).2
 generalize hP:4294967296 ^ k*2 ^ (32 - s)=P at *
 have hYX:val b/P≤val a/P:=Nat.div_le_div_right S
 have q1:∀ z,z/P*P≤z:=fun z=>Nat.div_mul_le_self z P
 have q2:∀ z,z<(z/P+1)*P:=fun z=>by
  have:=Nat.div_add_mod z P;have:=Nat.mod_lt z hPP
  rw[Nat.add_mul,Nat.mul_comm];omega
 obtain⟨a1,a2,I,L,e,r1,r2,r3,r4,r5,r6⟩:=A5b (R:=R) (N:=N) (X:=val a/P) (Y:=val b/P) (A:=val a) (B:=val b) (P:=P) hX hYX (q1 _) (q2 _) (q1 _) (q2 _) 128 N (val a/P) (val b/P) 0 1 0 0 0 1 false (by omega) (by
  have:=Nat.mul_lt_mul'' hX (Nat.lt_of_le_of_lt hYX hX)
  exact this) (Lead.init hYX) (.inl rfl) (by omega) (by omega) (by omega) (by omega)
 refine⟨a1,a2,I,L,e,r1,r2,r3,r4,r5,fun K=>?_⟩
 rw[dF];unfold JZ
 have w1:IntKind.wrap .i64 (((a.length:Nat):Int) - 1)=((k+2:Nat):Int):=by rw[i64 (by omega)];omega
 rw[w1,Aa (by omega),ct,aH (by omega),s4,show((a.length:Nat):Int)=((k+3:Nat):Int) by rw[hk],(wa _).1,(wb _).1]
 exact r6 K
theorem DC {N:Nat} {a b:List Nat} {n m:Nat} {x y:Nat} {t o t' o':Bool} (hn:n=a.length) (O:m=b.length) (D:Al a) (F:Al b) (A:x<18446744073709551616) (B:y<18446744073709551616) (C:val b*y≤val a*x) (k:fit (a.length+b.length+4) N) :
  ∃ S,Al S∧val S=val a*x - val b*y∧∀ K:Nat→LA→Option R,Fo N (Ae a) n t o (x:Int) (Ae b) m t' o' (y:Int) K=K (Ar (val a*x - val b*y)).length (Ae S):=by
 subst hn O
 have U:=k.1;have V:=k.2
 obtain⟨Sx,x1,x2,x3⟩:=Lx (R:=R) (N:=N) A (by omega)
 obtain⟨Sy,y1,y2,y3⟩:=Lx (R:=R) (N:=N) B (by omega)
 have lx:=UP A
 have ly:=UP B
 obtain⟨P1,p1,p2,G⟩:=eN (R:=R) (N:=N) (a:=a) (b:=Ar x) (t:=false) (o:=o) (t':=false) (o':=true) rfl rfl D (Ac _) (k.le (by omega))
 obtain⟨P2,T,I,L⟩:=eN (R:=R) (N:=N) (a:=b) (b:=Ar y) (t:=false) (o:=o') (t':=false) (o':=true) rfl rfl F (Ac _) (k.le (by omega))
 rw[Aj] at p2 G I L
 have l1:(Ar (val a*x)).length≤a.length+2:=Es (by
  have:=Nat.mul_lt_mul'' (Bm D) A
  rw[Nat.pow_add];exact this)
 have l2:(Ar (val b*y)).length≤b.length+2:=Es (by
  have:=Nat.mul_lt_mul'' (Bm F) B
  rw[Nat.pow_add];exact this)
 obtain⟨S,s1,s2,M⟩:=Af5 (R:=R) (N:=N) (a:=Ar (val a*x)) (b:=Ar (val b*y)) (t:=false) (o:=true) (t':=false) (o':=true) rfl rfl (Ac _) (Ac _) (k.le (by omega)) (by rw[Aj,Aj];exact C)
 rw[Aj,Aj] at s2 M
 refine⟨S,s1,s2,fun K=>?_⟩
 rw[dK];unfold dJ
 have tx:List.take ((Ar x).length*1) (Ae Sx)=Ae (Ar x):=by rw[←x2,Nc x1]
 have ty:List.take ((Ar y).length*1) (Ae Sy)=Ae (Ar y):=by rw[←y2,Nc y1]
 have t1:List.take ((Ar (val a*x)).length*1) (Ae P1)=Ae (Ar (val a*x)):=by rw[←p2,Nc p1]
 have t2:List.take ((Ar (val b*y)).length*1) (Ae P2)=Ae (Ar (val b*y)):=by rw[←I,Nc T]
 rw[x3,tx,G,y3,ty,L,t1,t2,M]
end
end Gx

namespace Gx
open Go Go.Proofs
section
variable {R:Type}
theorem A5c {N:Nat} (hN:4≤N):∀ (k fuel x y:Nat),k<fuel→x*y<2 ^ k→y≤x→x<18446744073709551616→∃ S,Al S∧val S=Nat.gcd x y∧∀ (B:LA→Nat→Bool→LA→Nat→Bool→Option R) (K:Nat→LA→Option R),Tk N B K fuel (x:Int) (y:Int)=K (Ar (Nat.gcd x y)).length (Ae S):=by
 have base:∀ (fuel x:Nat),x<18446744073709551616→∃ S,Al S∧val S=Nat.gcd x 0∧∀ (B:LA→Nat→Bool→LA→Nat→Bool→Option R) (K:Nat→LA→Option R),Tk N B K (fuel+1) (x:Int) ((0:Nat):Int)=K (Ar (Nat.gcd x 0)).length (Ae S):=by
  intro fuel x C
  obtain⟨S,s1,s2,G⟩:=Lx (R:=R) (N:=N) C hN
  refine⟨S,s1,by rw[s2,Nat.gcd_zero_right],fun B K=>?_⟩
  rw[Tk];unfold TT
  rw[show(((0:Nat):Int) != 0)=false by rfl,cf,G,Nat.gcd_zero_right]
 intro k
 induction k with
 | zero =>
  intro fuel x y I A D C
  obtain⟨fuel,rfl⟩:∃ F,fuel=F+1:=⟨fuel - 1,by omega⟩
  have L:y=0:=by
   rcases Nat.eq_zero_or_pos y with h | h
   ·exact h
   ·have T:=Nat.mul_le_mul_left x (show 1≤y by omega)
    rw[Nat.pow_zero] at A;omega
  subst L
  exact base fuel x C
 | succ k M =>
  intro fuel x y I A D C
  obtain⟨fuel,rfl⟩:∃ F,fuel=F+1:=⟨fuel - 1,by omega⟩
  rcases Nat.eq_zero_or_pos y with h | h
  ·subst h;exact base fuel x C
  ·have U:=eR (show 1≤y by omega) D
   have V:=Nat.mod_lt x h
   obtain⟨S,s1,s2,G⟩:=M fuel y (x%y) (by omega) (by rw[Nat.pow_succ] at A;omega) (by omega) (by omega)
   have O:Nat.gcd y (x%y)=Nat.gcd x y:=by rw[Nat.gcd_comm,←Nat.gcd_rec,Nat.gcd_comm]
   rw[O] at s2 G
   refine⟨S,s1,s2,fun B K=>?_⟩
   rw[Tk];unfold TT
   rw[show((y:Int) != 0)=true by rw[bne_iff_ne];omega,ct,Aj9 (by omega),cf,eO]
   exact G B K
theorem Anm {a b u v s t x y:Nat} (A:x+v*b=u*a) (B:y+s*a=t*b) (k:u*t=v*s+1):t*x+v*y=a∧s*x+u*y=b:=by
 constructor
 ·have C:t*x+t*v*b=t*u*a:=by rw[Nat.mul_assoc,Nat.mul_assoc,←Nat.mul_add,A]
  have D:v*y+v*s*a=v*t*b:=by rw[Nat.mul_assoc,Nat.mul_assoc,←Nat.mul_add,B]
  have F:t*u*a=v*s*a+a:=by rw[Nat.mul_comm t u,k,Nat.add_mul,Nat.one_mul]
  have G:t*v*b=v*t*b:=by rw[Nat.mul_comm t v]
  omega
 ·have C:s*x+s*v*b=s*u*a:=by rw[Nat.mul_assoc,Nat.mul_assoc,←Nat.mul_add,A]
  have D:u*y+u*s*a=u*t*b:=by rw[Nat.mul_assoc,Nat.mul_assoc,←Nat.mul_add,B]
  have F:u*t*b=v*s*b+b:=by rw[k,Nat.add_mul,Nat.one_mul]
  have G:s*u*a=u*s*a:=by rw[Nat.mul_comm s u]
  have I:s*v*b=v*s*b:=by rw[Nat.mul_comm s v]
  omega
theorem Ann {A B a b p q r s:Nat} (hA:p*a+q*b=A) (hB:r*a+s*b=B) (k:1≤p) (C:1≤q) (hr:1≤r) (D:b≤a):2*(a*b)≤A*B∧a≤A:=by
 have I:=Nat.mul_le_mul_right a k
 have L:=Nat.mul_le_mul_right b C
 have M:=Nat.mul_le_mul_right a hr
 have F:2*b≤A:=by omega
 have G:a≤B:=by omega
 have:=Nat.mul_le_mul F G
 refine⟨?_,by omega⟩
 rw[Nat.mul_comm a b,←Nat.mul_assoc];exact this
theorem Bbb {u0 u1 v0 v1:Nat} {e:Bool}:setCells [(.int .u64 0),(.int .u64 0),(.int .u64 0),(.int .u64 0),(.bool false)] 0 (A2b u0 u1 v0 v1 e)=A2b u0 u1 v0 v1 e:=rfl
theorem Avh {N:Nat}:∀ (k fuel A B:Nat) (d f:Bool),k<fuel→A*B<2 ^ k→B≤A→fit (2*(Ar A).length+4) N→∃ S,Al S∧val S=Nat.gcd A B∧∀ K:Nat→LA→Option R,Fp N K fuel (Ae (Ar A)) (Ar A).length d (Ae (Ar B)) (Ar B).length f=K (Ar (Nat.gcd A B)).length (Ae S):=by
 have base:∀ (fuel A:Nat) (d f:Bool),fit (2*(Ar A).length+4) N→∃ S,Al S∧val S=Nat.gcd A 0∧∀ K:Nat→LA→Option R,Fp N K (fuel+1) (Ae (Ar A)) (Ar A).length d (Ae (Ar 0)) (Ar 0).length f=K (Ar (Nat.gcd A 0)).length (Ae S):=by
  intro fuel A d f D
  refine⟨Ar A,Ac _,by rw[Aj,Nat.gcd_zero_right],fun K=>?_⟩
  rw[Fp];unfold GD
  rw[Ea,show decide ((((([]:List Nat).length:Nat)):Int)>0)=false by decide,cf,ge rfl (Ac _) (D.le (by omega)),Aj,Nat.gcd_zero_right]
 intro k
 induction k with
 | zero =>
  intro fuel A B d f hfu L I D
  obtain⟨fuel,rfl⟩:∃ F,fuel=F+1:=⟨fuel - 1,by omega⟩
  have hy:B=0:=by
   rcases Nat.eq_zero_or_pos B with h | h
   ·exact h
   ·have h3:=Nat.mul_le_mul_left A (show 1≤B by omega)
    rw[Nat.pow_zero] at L;omega
  subst hy
  exact base fuel A d f D
 | succ k ih =>
  intro fuel A B d f hfu L I D
  have h1:=D.1;have h2:=D.2
  obtain⟨fuel,rfl⟩:∃ F,fuel=F+1:=⟨fuel - 1,by omega⟩
  rcases Nat.eq_zero_or_pos B with h | h
  ·subst h;exact base fuel A d f D
  have hll:=B9 I
  have hbl:(Ar B).length≠0:=fun h0=>by have:=By.1 h0;omega
  have V:decide ((((Ar B).length:Nat):Int)>0)=true:=by rw[decide_eq_true_eq];omega
  by_cases Y:(Ar A).length≤2
  ·have av:=qE Y
   obtain⟨S,s1,s2,O⟩:=A5c (R:=R) (N:=N) (by omega) 128 N A B (by omega) (by have:=Nat.mul_lt_mul'' av (Nat.lt_of_le_of_lt I av);exact this) I av
   refine⟨S,s1,s2,fun K=>?_⟩
   rw[Fp];unfold GD
   rw[V,ct,show decide ((((Ar A).length:Nat):Int)≤2)=true by rw[decide_eq_true_eq];omega,ct,PZ rfl (Ac _) Y (by omega),PZ rfl (Ac _) (by omega) (by omega),Aj,Aj]
   exact O _ K
  ·have hd2:decide ((((Ar A).length:Nat):Int)≤2)=false:=by rw[decide_eq_false_iff_not];omega
   obtain⟨a1,a2,C,G,e,r1,r2,r3,r4,r5,r6⟩:=Aq3 (R:=R) (N:=N) (a:=Ar A) (b:=Ar B) (t:=false) (o:=d) (t':=false) (o':=f) rfl rfl (Ac _) (Ac _) (by omega) (Aax _ _) hll (by rw[Aj,Aj];exact I) (D.le (by omega))
   rw[Aj,Aj] at r1
   have start:∀ K:Nat→LA→Option R,Fp N K (fuel+1) (Ae (Ar A)) (Ar A).length d (Ae (Ar B)) (Ar B).length f=cond ((C:Int)==0) (E6 N (Ae (Ar A)) (Ar A).length false d (Ae (Ar B)) (Ar B).length false f (fun bm ag bn bo ar=>(Fp N K fuel (Ae (Ar B)) (Ar B).length f (List.take (ag*1) ar) ag false))) (cond e (Fo N (Ae (Ar A)) (Ar A).length false d (a1:Int) (Ae (Ar B)) (Ar B).length false f (C:Int) (fun ah ax=>Fo N (Ae (Ar B)) (Ar B).length false f (G:Int) (Ae (Ar A)) (Ar A).length false d (a2:Int) (fun ai ba=>(Fp N K fuel (List.take (ah*1) ax) ah false (List.take (ai*1) ba) ai false)))) (Fo N (Ae (Ar B)) (Ar B).length false f (C:Int) (Ae (Ar A)) (Ar A).length false d (a1:Int) (fun aj bd=>Fo N (Ae (Ar A)) (Ar A).length false d (a2:Int) (Ae (Ar B)) (Ar B).length false f (G:Int) (fun ak bg=>(Fp N K fuel (List.take (aj*1) bd) aj false (List.take (ak*1) bg) ak false))))):=by
    intro K
    rw[Fp];unfold GD
    rw[V,ct,hd2,cf,r6,Bbb]
    rfl
   by_cases T:C=0
   ·obtain⟨Sq,Sr,q1,q2,q3,q4,q5⟩:=eQ (R:=R) (N:=N) (a:=Ar A) (b:=Ar B) (t:=false) (o:=d) (t':=false) (o':=f) rfl rfl (Ac _) (Ac _) (by rw[Aj];omega) (D.le (by omega))
    rw[Aj,Aj] at q2 q4 q5
    have hm:=Nat.mod_lt A h
    have hh:=eR (show 1≤B by omega) I
    obtain⟨S,s1,s2,O⟩:=ih fuel B (A%B) f false (by omega) (by rw[Nat.pow_succ] at L;omega) (by omega) (D.le (by omega))
    have U:Nat.gcd B (A%B)=Nat.gcd A B:=by rw[Nat.gcd_comm,←Nat.gcd_rec,Nat.gcd_comm]
    rw[U] at s2 O
    refine⟨S,s1,s2,fun K=>?_⟩
    have tk:List.take ((Ar (A%B)).length*1) (Ae Sr)=Ae (Ar (A%B)):=by rw[←q4,Nc q3]
    rw[start,Bdq T,ct,q5,tk,O]
   ·rcases r1 with r1 | ⟨p1,p2,r1⟩
    ·exact absurd r1 T
    cases e with
    | true =>
     obtain⟨c1,c2,c3,c4⟩:=r1
     obtain⟨S1,t1,t2,t3⟩:=DC (R:=R) (N:=N) (a:=Ar A) (b:=Ar B) (x:=a1) (y:=C) (t:=false) (o:=d) (t':=false) (o':=f) rfl rfl (Ac _) (Ac _) r2 r4 (by rw[Aj,Aj,Nat.mul_comm,Nat.mul_comm A];exact c1) (D.le (by omega))
     obtain⟨S2,w1,w2,w3⟩:=DC (R:=R) (N:=N) (a:=Ar B) (b:=Ar A) (x:=G) (y:=a2) (t:=false) (o:=f) (t':=false) (o':=d) rfl rfl (Ac _) (Ac _) r5 r3 (by rw[Aj,Aj,Nat.mul_comm,Nat.mul_comm B];exact c2) (D.le (by omega))
     rw[Aj,Aj] at t2 t3 w2 w3
     have g1:(A*a1 - B*C)+C*B=a1*A:=by rw[Nat.mul_comm A,Nat.mul_comm B];omega
     have g2:(B*G - A*a2)+a2*A=G*B:=by rw[Nat.mul_comm A,Nat.mul_comm B];omega
     have M:B*G - A*a2≤A*a1 - B*C:=by rw[Nat.add_mul,Nat.add_mul] at c3;omega
     obtain⟨i1,i2⟩:=Anm g1 g2 c4
     have U:=Atx g1 g2 c4
     obtain⟨i3,i4⟩:=Ann i1 i2 p2 (by omega) p1 M
     have hl:=B9 i4
     obtain⟨S,s1,s2,O⟩:=ih fuel (A*a1 - B*C) (B*G - A*a2) false false (by omega) (by rw[Nat.pow_succ] at L;omega) M (D.le (by omega))
     rw[U] at s2 O
     refine⟨S,s1,s2,fun K=>?_⟩
     have tk1:List.take ((Ar (A*a1 - B*C)).length*1) (Ae S1)=Ae (Ar (A*a1 - B*C)):=by rw[←t2,Nc t1]
     have Aka:List.take ((Ar (B*G - A*a2)).length*1) (Ae S2)=Ae (Ar (B*G - A*a2)):=by rw[←w2,Nc w1]
     rw[start,Aj9 T,cf,ct,t3,w3,tk1,Aka,O]
    | false =>
     obtain⟨c1,c2,c3,c4⟩:=r1
     obtain⟨S1,t1,t2,t3⟩:=DC (R:=R) (N:=N) (a:=Ar B) (b:=Ar A) (x:=C) (y:=a1) (t:=false) (o:=f) (t':=false) (o':=d) rfl rfl (Ac _) (Ac _) r4 r2 (by rw[Aj,Aj,Nat.mul_comm,Nat.mul_comm B];exact c1) (D.le (by omega))
     obtain⟨S2,w1,w2,w3⟩:=DC (R:=R) (N:=N) (a:=Ar A) (b:=Ar B) (x:=a2) (y:=G) (t:=false) (o:=d) (t':=false) (o':=f) rfl rfl (Ac _) (Ac _) r3 r5 (by rw[Aj,Aj,Nat.mul_comm,Nat.mul_comm A];exact c2) (D.le (by omega))
     rw[Aj,Aj] at t2 t3 w2 w3
     have g1:(B*C - A*a1)+a1*A=C*B:=by rw[Nat.mul_comm A,Nat.mul_comm B];omega
     have g2:(A*a2 - B*G)+G*B=a2*A:=by rw[Nat.mul_comm A,Nat.mul_comm B];omega
     have M:A*a2 - B*G≤B*C - A*a1:=by rw[Nat.add_mul,Nat.add_mul] at c3;omega
     obtain⟨i1,i2⟩:=Anm g2 g1 c4
     have U:=Atx g2 g1 c4
     rw[Nat.gcd_comm] at U
     rw[Nat.add_comm] at i1 i2
     obtain⟨i3,i4⟩:=Ann i1 i2 p2 (by omega) p1 M
     have hl:=B9 i4
     obtain⟨S,s1,s2,O⟩:=ih fuel (B*C - A*a1) (A*a2 - B*G) false false (by omega) (by rw[Nat.pow_succ] at L;omega) M (D.le (by omega))
     rw[U] at s2 O
     refine⟨S,s1,s2,fun K=>?_⟩
     have tk1:List.take ((Ar (B*C - A*a1)).length*1) (Ae S1)=Ae (Ar (B*C - A*a1)):=by rw[←t2,Nc t1]
     have Aka:List.take ((Ar (A*a2 - B*G)).length*1) (Ae S2)=Ae (Ar (A*a2 - B*G)):=by rw[←w2,Nc w1]
     rw[start,Aj9 T,cf,cf,t3,w3,tk1,Aka,O]
theorem Avi (n m:Nat):4294967296 ^ n*4294967296 ^ m=2 ^ (32*(n+m)):=by
 rw[←Nat.pow_add,show(4294967296:Nat)=2 ^ 32 by rfl,←Nat.pow_mul]
theorem A7g {N:Nat} {a b:List Nat} {n m:Nat} {t o t' o':Bool} (hn:n=a.length) (G:m=b.length) (C:Al a) (D:Al b) (A:fit (2*(a.length+b.length)+4) N) :
  ∃ S,Al S∧val S=Nat.gcd (val a) (val b)∧∀ K:Nat→LA→Option R,dM N (Ae a) n t o (Ae b) m t' o' K=K (Ar (Nat.gcd (val a) (val b))).length (Ae S):=by
 have I:=A.1;have L:=A.2
 have la:=(Bu C).2
 have lb:=(Bu D).2
 have k:val a*val b<2 ^ (32*(a.length+b.length)):=by rw[←Avi];exact Nat.mul_lt_mul'' (Bm C) (Bm D)
 have start:∀ K:Nat→LA→Option R,dM N (Ae a) n t o (Ae b) m t' o' K=cond (decide (Ih (val a) (val b)<0)) (Fp N K N (Ae (Ar (val b))) (Ar (val b)).length o' (Ae (Ar (val a))) (Ar (val a)).length o) (Fp N K N (Ae (Ar (val a))) (Ar (val a)).length o (Ae (Ar (val b))) (Ar (val b)).length o'):=by
  intro K
  rw[Adj];unfold za gS mQ
  dsimp only
  rw[Ca hn C (A.le (by omega)),Ca G D (A.le (by omega)),To rfl rfl (Ac _) (Ac _) (A.le (by omega)),Aj,Aj]
 by_cases B:val a<val b
 ·obtain⟨S,s1,s2,F⟩:=Avh (R:=R) (N:=N) (32*(a.length+b.length)) N (val b) (val a) o' o (by omega) (by rw[Nat.mul_comm];exact k) (by omega) (A.le (by omega))
  rw[Nat.gcd_comm] at s2
  refine⟨S,s1,s2,fun K=>?_⟩
  rw[start,show decide (Ih (val a) (val b)<0)=true by (unfold Ih;rw[if_pos B];rfl),ct,F,Nat.gcd_comm]
 ·obtain⟨S,s1,s2,F⟩:=Avh (R:=R) (N:=N) (32*(a.length+b.length)) N (val a) (val b) o o' (by omega) k (by omega) (A.le (by omega))
  refine⟨S,s1,s2,fun K=>?_⟩
  rw[start,show decide (Ih (val a) (val b)<0)=false by (unfold Ih;rw[if_neg B];split<;>rfl),cf,F]
end
end Gx

namespace Gx
open Go Go.Proofs
section
variable {R:Type}
theorem Bci {c:Nat} (h:c≤1000000000000):((Nat.ble (0+c) 140737488355328)&&(Nat.ble ((0+c)*4) 140737488355328))=true:=by simp;omega
theorem m9 {N:Nat} {l:List Nat} {t o:Bool} {K:Nat→LA→Option R} (A:Al l) (hs:l.length≤1000000000000):∀ (c fuel:Nat),c≤l.length→c<fuel →
  Og N K (Ae l) l.length t o fuel (c:Int)=K (Ar (val (l.take c))).length (Ae (Ar (val (l.take c))))
 | 0,fuel+1,B,_=>by
  rw[Og];unfold CL
  rw[show decide (((0:Nat):Int)>0)=false by simp]
  rw[show((false:Bool)==true)=false by rfl,cf,Bab (by omega),ct,Int.toNat_natCast,Nat.mul_one,Wa,IU,Bool.or_true,ct,Bci (by omega),ct];rfl
 | c+1,fuel+1,B,C=>by
  rw[Og];unfold CL
  rw[Ay5,ct,wP (by omega),Aa (by omega),ct,aH (by omega),Axi,Bab (by omega),ct,m9 A hs c fuel (by omega) (by omega),Int.toNat_natCast,Nat.mul_one,Wa,IU,Bool.or_true,ct,Bci (by omega),ct,Nat.zero_add]
  by_cases k:l[c]=0
  ·rw[A7 (by omega),k];simp
  ·rw[Ap6 A (by omega) k,List.length_take,Nat.min_eq_left B]
   rw[Aj9 k,cf]
theorem Dt {N:Nat} {l:List Nat} {n:Nat} {t o:Bool} {K:Nat→LA→Option R} (hn:n=l.length) (A:Al l) (k:fit l.length N):D2 N (Ae l) n t o K=K (Ar (val l)).length (Ae (Ar (val l))):=by
 subst hn
 have B:=k.1;have C:=k.2
 rw[SY];unfold OA
 dsimp only
 rw[m9 A (by omega) l.length N (Nat.le_refl _) (by omega),List.take_length]
theorem Avj {N:Nat} {a b:List Nat} {t o t' o':Bool} {K:Bool→Option R} (hs:a.length≤1000000000000) (C:a.length=b.length):∀ (m j fuel:Nat),j+m=a.length→m<fuel →
  Lo N K (Ae a) a.length t o (Ae b) b.length t' o' fuel (j:Int)=K (decide (a.drop j=b.drop j))
 | 0,j,fuel+1,D,_=>by
  rw[Lo];unfold W9
  rw[Lb (by omega),cf,List.drop_eq_nil_of_le (by omega),List.drop_eq_nil_of_le (by omega)];simp
 | m+1,j,fuel+1,D,F=>by
  have A:j<a.length:=by omega
  have B:j<b.length:=by omega
  rw[Lo];unfold W9
  rw[Jp A,ct,Aa A,ct,aH A,Aa B,ct,aH B,wS (by omega),Avj hs C m (j+1) fuel (by omega) (by omega),List.drop_eq_getElem_cons A,List.drop_eq_getElem_cons B]
  by_cases h:a[j]=b[j]
  ·rw[show((((a[j]:Nat):Int) != ((b[j]:Nat):Int)))=false by simp[h],cf];congr 1;rw[decide_eq_decide,List.cons.injEq];exact⟨fun k=>⟨h,k⟩,fun k=>k.2⟩
  ·rw[show((((a[j]:Nat):Int) != ((b[j]:Nat):Int)))=true by rw[bne_iff_ne];omega,ct];congr 1;symm;rw[decide_eq_false_iff_not,List.cons.injEq];exact fun k=>h k.1
theorem A7h {N:Nat} {a b:List Nat} {n m:Nat} {t o t' o':Bool} {K:Bool→Option R} (hn:n=a.length) (B:m=b.length) (A:fit a.length N):DT N (Ae a) n t o (Ae b) m t' o' K=K (decide (a=b)):=by
 subst hn B
 have C:=A.1;have D:=A.2
 rw[i0];unfold S_
 by_cases k:a.length=b.length
 ·rw[show(((a.length:Nat):Int) != ((b.length:Nat):Int))=false by simp[k],cf]
  have:=Avj (R:=R) (N:=N) (t:=t) (o:=o) (t':=t') (o':=o') (K:=K) (by omega) k a.length 0 N (by omega) (by omega)
  simpa using this
 ·rw[show(((a.length:Nat):Int) != ((b.length:Nat):Int))=true by rw[bne_iff_ne];omega,ct]
  congr 1;symm;rw[decide_eq_false_iff_not];intro h;exact k (by rw[h])
theorem K_ {N:Nat} {v:Nat} {K:Nat→LA→Option R} (B:v<18446744073709551616) (hN:4≤N):Et N (v:Int) K=K (Ar v).length (Ae (Ar v)):=by
 have A:Al [v%4294967296,v/4294967296]:=Dq.2 ⟨by omega,Dq.2 ⟨by omega,V9⟩⟩
 have k:val [v%4294967296,v/4294967296]=v:=by simp[val];omega
 rw[ET];unfold Z5
 rw[l7,sI,A14 (show v/4294967296<4294967296 by omega)]
 have:=m9 (R:=R) (N:=N) (l:=[v%4294967296,v/4294967296]) (t:=false) (o:=true) (K:=K) A (by simp) 2 N (by simp) (by omega)
 rw[show [v%4294967296,v/4294967296].take 2=[v%4294967296,v/4294967296] by rfl,k] at this
 rw[SY];unfold OA
 exact this
theorem US {N:Nat} {l:List Nat} {n:Nat} {t o:Bool} {K:Int→Bool→Option R} (hn:n=l.length) (G:Al l) (D:fit l.length N):Sc N (Ae l) n t o K=if val l<18446744073709551616 then K (val l:Int) true else K 0 false:=by
 have O:=D.1
 rw[bU];unfold IZ
 rw[Dt hn G D]
 by_cases h:val l<18446744073709551616
 ·have I:=UP h
  rw[if_pos h,show decide ((((Ar (val l)).length:Nat):Int)>2)=false by simp;omega,cf]
  have k:=Aj (val l)
  have B:=Ac (val l)
  obtain⟨M,hM⟩:∃ M,N=M+4:=⟨N - 4,by omega⟩
  rw[hM]
  generalize Ar (val l)=d at *
  match d,I,k,B with
  | [],_,k,_ =>
   dsimp only
   rw[En];unfold F7
   rw[←k,i64 (by simp)];rfl
  | [x],_,k,B =>
   have C:=(Dq.1 B).1
   have A:val l=x:=by rw[←k];simp[val]
   dsimp only
   rw[En];unfold F7
   rw[i64 (by simp),show((([x]:List Nat).length:Nat):Int) - 1=((0:Nat):Int) by rfl,show decide (((0:Nat):Int)≥0)=true by rfl,ct,Aa (by simp),ct,oa (by simp)]
   rw[En];unfold F7
   rw[i64 (by simp),show decide ((((0:Nat):Int) - 1)≥0)=false by rfl,cf]
   have:=Ba7 (a:=0) (b:=x) (by omega) C
   simp only[List.getElem_cons_zero]
   rw[Jk (show x<18446744073709551616 by omega),show(0:Int)=((0:Nat):Int) by rfl,this,A];simp
  | [x,y],_,k,B =>
   have C:=(Dq.1 B).1
   have F:=(Dq.1 (Dq.1 B).2).1
   have A:val l=y*4294967296+x:=by rw[←k];simp[val];omega
   dsimp only
   rw[En];unfold F7
   rw[i64 (by simp),show((([x,y]:List Nat).length:Nat):Int) - 1=((1:Nat):Int) by rfl,show decide (((1:Nat):Int)≥0)=true by rfl,ct,Aa (by simp),ct,oa (by simp)]
   rw[En];unfold F7
   rw[i64 (by simp),show(((1:Nat):Int) - 1)=((0:Nat):Int) by rfl,show decide (((0:Nat):Int)≥0)=true by rfl,ct,Aa (by simp),ct,oa (by simp)]
   rw[En];unfold F7
   rw[i64 (by simp),show decide ((((0:Nat):Int) - 1)≥0)=false by rfl,cf]
   have o1:=Ba7 (a:=0) (b:=y) (by omega) F
   have o2:=Ba7 (a:=y) (b:=x) F C
   simp only[List.getElem_cons_zero,List.getElem_cons_succ]
   rw[Jk (show y<18446744073709551616 by omega),Jk (show x<18446744073709551616 by omega),show(0:Int)=((0:Nat):Int) by rfl,o1,Nat.zero_mul,Nat.zero_add,o2,A]
 ·have:¬ (Ar (val l)).length≤2:=fun L=>h (qE L)
  rw[if_neg h,show decide ((((Ar (val l)).length:Nat):Int)>2)=true by simp;omega,ct]
theorem Ano {N:Nat} {x y:List Nat} {K:Int→Option R} (B:Al x) (C:Al y) (hs:x.length≤1000000000000) (F:x.length=y.length):∀ (i fuel:Nat),i≤x.length→i<fuel →
  Ht N K x.length y.length (Ae x) (Ae y) fuel ((i:Int) - 1)=K (Ih (val (x.take i)) (val (y.take i)))
 | 0,fuel+1,_,_=>by
  rw[Ht];unfold Rr
  rw[show decide ((((0:Nat):Int) - 1)≥0)=false by simp,cf]
  simp[EA]
 | i+1,fuel+1,hi,G=>by
  rw[Ht];unfold Rr
  rw[show(((i+1:Nat):Int) - 1)=(i:Int) by omega,show decide ((i:Int)≥0)=true by simp,ct,Aa (by omega),ct,oa (by omega),Aa (by omega),ct,oa (by omega),ct,oa (by omega),ct,oa (by omega),i64 (by omega),
   Ano B C hs F i fuel (by omega) (by omega),A7 (by omega),A7 (by omega)]
  have k:=Bm (Co B i)
  have A:=Bm (Co C i)
  rw[List.length_take,Nat.min_eq_left (by omega)] at k A
  by_cases c1:x[i]<y[i]
  ·have:=zc k A c1
   rw[show decide (((x[i]:Nat):Int)<((y[i]:Nat):Int))=true by simp;exact c1,ct]
   unfold Ih;rw[if_pos this]
  ·by_cases D:y[i]<x[i]
   ·have:=zc A k D
    rw[show decide (((x[i]:Nat):Int)<((y[i]:Nat):Int))=false by simp;omega,cf,show decide (((x[i]:Nat):Int)>((y[i]:Nat):Int))=true by simp;exact D,ct]
    unfold Ih;rw[if_neg (by omega),if_pos this]
   ·have:x[i]=y[i]:=by omega
    rw[show decide (((x[i]:Nat):Int)<((y[i]:Nat):Int))=false by simp;omega,cf,show decide (((x[i]:Nat):Int)>((y[i]:Nat):Int))=false by simp;omega,cf,this]
    unfold Ih
    congr 1
    by_cases a1:val (x.take i)<val (y.take i)
    ·rw[if_pos a1,if_pos (by omega)]
    ·by_cases a2:val (y.take i)<val (x.take i)
     ·rw[if_neg a1,if_pos a2,if_neg (by omega),if_pos (by omega)]
     ·rw[if_neg a1,if_neg a2,if_neg (by omega),if_neg (by omega)]
theorem A5d {N:Nat} {a b:List Nat} {n m:Nat} {t o t' o':Bool} {K:Int→Option R} (hn:n=a.length) (F:m=b.length) (A:Al a) (B:Al b) (k:fit (a.length+b.length) N) :
  Tb N (Ae a) n t o (Ae b) m t' o' K=K (Ih (val a) (val b)):=by
 subst hn F
 have G:=k.1;have I:=k.2
 rw[WN];unfold CM
 dsimp only
 rw[Dt rfl A (k.le (by omega)),Dt rfl B (k.le (by omega))]
 have la:=(Bu A).2
 have lb:=(Bu B).2
 by_cases C:(Ar (val a)).length=(Ar (val b)).length
 ·rw[show((((Ar (val a)).length:Nat):Int) != (((Ar (val b)).length:Nat):Int))=false by simp;omega,cf,i64 (by omega),Ano (Ac _) (Ac _) (by omega) C _ N (Nat.le_refl _) (by omega),List.take_length,C,List.take_length,Aj,Aj]
 ·rw[show((((Ar (val a)).length:Nat):Int) != (((Ar (val b)).length:Nat):Int))=true by simp;omega,ct]
  by_cases D:(Ar (val a)).length<(Ar (val b)).length
  ·have:=UO D
   rw[Jp D,ct]
   unfold Ih;rw[if_pos this]
  ·have:=UO (show(Ar (val b)).length<(Ar (val a)).length by omega)
   rw[Lb (by omega),cf]
   unfold Ih;rw[if_neg (by omega),if_pos this]
end
end Gx

namespace Gx
open Go Go.Proofs
section
variable {R:Type}
theorem Bcj (a b:Nat):Ig (a:Int) (b:Int)=((max a b:Nat):Int):=by
 unfold Ig
 by_cases h:(b:Int)>(a:Int)
 ·rw[decide_eq_true h];show(b:Int)=_;omega
 ·rw[decide_eq_false h];show(a:Int)=_;omega
theorem Anp {N:Nat} {a b:List Nat} {t o t' o':Bool} {n:Nat} (F:Al a) (G:Al b) (I:a.length<n) (L:b.length<n) (hn:n≤max a.length b.length+1) (C:fit n N):∀ (m d fuel:Nat) (S:List Nat) (c:Nat),d+m=n→m<fuel→Al S→S.length=n→A49 S d→c≤1 →
  val S+4294967296 ^ d*c=val (a.take d)+val (b.take d) →
  ∀ K:Nat→LA→Option R,Jm N K (Ae a) a.length t o (Ae b) b.length t' o' fuel n (c:Int) (d:Int) (Ae S)=K (Ar (val a+val b)).length (Ae (Ar (val a+val b)))
 | 0,d,fuel+1,S,c,hd,_,hS,D,M,hc,O=>by
  intro K
  have T:d=n:=by omega
  subst T
  rw[List.take_of_length_le (by omega),List.take_of_length_le (by omega)] at O
  have U:c=0:=by
   rcases Nat.eq_zero_or_pos c with h | h
   ·exact h
   ·exfalso
    have V:c=1:=by omega
    subst V
    obtain⟨e,rfl⟩:∃ e,d=e+1:=⟨d - 1,by omega⟩
    have x1:=Bm F
    have x2:=Bm G
    have y1:4294967296 ^ a.length≤4294967296 ^ e:=Nat.pow_le_pow_right (by omega) (by omega)
    have y2:4294967296 ^ b.length≤4294967296 ^ e:=Nat.pow_le_pow_right (by omega) (by omega)
    rw[Nat.pow_succ] at O
    omega
  subst U
  have Y:val S=val a+val b:=by omega
  rw[Jm];unfold I_
  rw[Lb (Nat.le_refl _),cf,Nat.mul_one,List.take_of_length_le (by rw[B7];omega),Dt D.symm hS (by rw[D];exact C),Y]
 | m+1,d,fuel+1,S,c,hd,hfu,hS,D,M,hc,O=>by
  intro K
  have h1:=C.1;have h2:=C.2
  have ga:=EB F d
  have gb:=EB G d
  have step:∀ s:Nat,s=c+a.getD d 0+b.getD d 0→val (S.set d (s%4294967296))+4294967296 ^ (d+1)*(s/4294967296)=val (a.take (d+1))+val (b.take (d+1)):=by
   intro s hs
   rw[Xr M (by omega),Tp a d,Tp b d,Nat.pow_succ]
   have e:=Ov (4294967296 ^ d) s
   have e2:4294967296 ^ d*s=4294967296 ^ d*c+4294967296 ^ d*a.getD d 0+4294967296 ^ d*b.getD d 0:=by rw[hs,Nat.mul_add,Nat.mul_add]
   omega
  have next:∀ s:Nat,s=c+a.getD d 0+b.getD d 0→Jm N K (Ae a) a.length t o (Ae b) b.length t' o' fuel n ((s/4294967296:Nat):Int) ((d+1:Nat):Int) (Ae (S.set d (s%4294967296)))=K (Ar (val a+val b)).length (Ae (Ar (val a+val b))):=by
   intro s hs
   exact Anp F G I L hn C m (d+1) fuel (S.set d (s%4294967296)) (s/4294967296) (by omega) (by omega) (Cx hS (by omega) d) (by simpa using D) (KZ M) (by omega) (step s hs) K
  have second:∀ w:Nat,w=c+a.getD d 0→EW N (Jm N K (Ae a) a.length t o (Ae b) b.length t' o' fuel) K (Ae a) a.length t o (Ae b) b.length t' o' n (Ae S) (w:Int) (d:Int)=K (Ar (val a+val b)).length (Ae (Ar (val a+val b))):=by
   intro w hw
   unfold EW
   by_cases k:d<b.length
   ·have B:b.getD d 0=b[d]:=by rw[List.getD_eq_getElem?_getD,List.getElem?_eq_getElem k];rfl
    rw[Jp k,ct,Aa k,ct,aH k,Aa (by omega),ct,Aln (by omega),ct,Jk (show b[d]<18446744073709551616 by omega),N',Jk (show w+b[d]<18446744073709551616 by omega),sI,l7,cQ,wS (by omega)]
    exact next _ (by rw[hw,B])
   ·have B:b.getD d 0=0:=by rw[List.getD_eq_getElem?_getD,List.getElem?_eq_none (by omega)];rfl
    rw[Lb (by omega),cf,Aa (by omega),ct,Aln (by omega),ct,sI,l7,cQ,wS (by omega)]
    exact next _ (by rw[hw,B];rfl)
  rw[Jm];unfold I_
  rw[Jp (by omega),ct]
  by_cases A:d<a.length
  ·have B:a.getD d 0=a[d]:=by rw[List.getD_eq_getElem?_getD,List.getElem?_eq_getElem A];rfl
   rw[Jp A,ct,Aa A,ct,aH A,Jk (show a[d]<18446744073709551616 by omega),N',Jk (show c+a[d]<18446744073709551616 by omega)]
   exact second _ (by rw[B])
  ·have B:a.getD d 0=0:=by rw[List.getD_eq_getElem?_getD,List.getElem?_eq_none (by omega)];rfl
   rw[Lb (by omega),cf]
   exact second _ (by rw[B];rfl)
theorem tE {N:Nat} {a b:List Nat} {n m:Nat} {t o t' o':Bool} {K:Nat→LA→Option R} (hn:n=a.length) (A:m=b.length) (B:Al a) (C:Al b) (k:fit (a.length+b.length+1) N) :
  JA N (Ae a) n t o (Ae b) m t' o' K=K (Ar (val a+val b)).length (Ae (Ar (val a+val b))):=by
 subst hn A
 have D:=k.1;have F:=k.2
 rw[vJ];unfold oD
 rw[Bcj,wS (by omega),A6c (by omega),ct,Int.toNat_natCast,Da]
 exact Anp B C (n:=max a.length b.length+1) (by omega) (by omega) (Nat.le_refl _) (k.le (by omega)) (max a.length b.length+1) 0 N (List.replicate (max a.length b.length+1) 0) 0 (by omega) (by omega) (Cu _) (by simp) (Ni _) (by omega) (by rw[Em];simp[val]) K
theorem Anq {N:Nat} {a b:List Nat} (Y:Al a) (hb:Al b) (I:fit a.length N) (F:b.length≤a.length) (L:val b≤val a):∀ (m d fuel:Nat) (S:List Nat) (c:Nat),d+m=a.length→m<fuel→Al S→S.length=a.length→A49 S d→c≤1 →
  val S+val (b.take d)=val (a.take d)+4294967296 ^ d*c →
  ∀ K:Nat→Bool→LA→Option R,Jn N K a.length b.length (Ae a) (Ae b) fuel (c:Int) (d:Int) (Ae S)=K (Ar (val a - val b)).length true (Ae (Ar (val a - val b)))
 | 0,d,fuel+1,S,c,hd,_,hS,G,M,hc,hv=>by
  intro K
  have O:d=a.length:=by omega
  subst O
  rw[List.take_length,List.take_of_length_le F] at hv
  have B:=Bm hS
  rw[G] at B
  have T:c=0:=by
   rcases Nat.lt_or_ge 0 c with h | h
   ·exfalso
    have:c=1:=by omega
    subst this
    omega
   ·omega
  subst T
  have U:val S=val a - val b:=by omega
  rw[Jn];unfold JC
  rw[Lb (Nat.le_refl _),cf,Nat.mul_one,List.take_of_length_le (by rw[B7];omega),Dt G.symm hS (by rw[G];exact I),U]
 | m+1,d,fuel+1,S,c,hd,hfu,hS,G,M,hc,hv=>by
  intro K
  have h1:=I.1;have h2:=I.2
  have k:d<a.length:=by omega
  have ad:=Bc Y k
  have gb:=EB hb d
  have step:∀ y g c':Nat,y=c+b.getD d 0→a[d]+4294967296*c'=g+y→val (S.set d g)+val (b.take (d+1))=val (a.take (d+1))+4294967296 ^ (d+1)*c':=by
   intro y g c' D C
   rw[Xr M (by omega),A7 k,Tp b d,Nat.pow_succ,Nat.mul_assoc]
   have e:4294967296 ^ d*(a[d]+4294967296*c')=4294967296 ^ d*(g+(c+b.getD d 0)):=by rw[C,D]
   rw[Nat.mul_add,Nat.mul_add,Nat.mul_add] at e
   omega
  have next:∀ y g c':Nat,g<4294967296→c'≤1→y=c+b.getD d 0→a[d]+4294967296*c'=g+y→Jn N K a.length b.length (Ae a) (Ae b) fuel (c':Int) ((d+1:Nat):Int) (Ae (S.set d g))=K (Ar (val a - val b)).length true (Ae (Ar (val a - val b))):=by
   intro y g c' C V D he
   exact Anq Y hb I F L m (d+1) fuel (S.set d g) c' (by omega) (by omega) (Cx hS C d) (by simpa using G) (KZ M) V (step y g c' D he) K
  have second:∀ y:Nat,y=c+b.getD d 0→EX N (Jn N K a.length b.length (Ae a) (Ae b) fuel) K a.length b.length (Ae a) (Ae b) (Ae S) (d:Int) (y:Int)=K (Ar (val a - val b)).length true (Ae (Ar (val a - val b))):=by
   intro y D
   unfold EX
   rw[Aa k,ct,oa k,Jk (show a[d]<18446744073709551616 by omega)]
   by_cases B:a[d]<y
   ·rw[Jp B,ct,ct,Aln (by omega),ct,show((a[d]:Nat):Int)+4294967296=((a[d]+4294967296:Nat):Int) by omega,Jk (show a[d]+4294967296<18446744073709551616 by omega),sH (by omega) (by omega),A14 (by omega),cQ,wS (by omega)]
    exact next y (a[d]+4294967296 - y) 1 (by omega) (by omega) D (by omega)
   ·rw[Lb (by omega),cf,ct,Aln (by omega),ct,sH (by omega) (by omega),A14 (by omega),cQ,wS (by omega)]
    exact next y (a[d] - y) 0 (by omega) (by omega) D (by omega)
  rw[Jn];unfold JC
  rw[Jp k,ct]
  by_cases A:d<b.length
  ·have C:b.getD d 0=b[d]:=by rw[List.getD_eq_getElem?_getD,List.getElem?_eq_getElem A];rfl
   rw[Jp A,ct,Aa A,ct,oa A,Jk (show b[d]<18446744073709551616 by omega),N',Jk (show c+b[d]<18446744073709551616 by omega)]
   exact second _ (by rw[C])
  ·have C:b.getD d 0=0:=by rw[List.getD_eq_getElem?_getD,List.getElem?_eq_none (by omega)];rfl
   rw[Lb (by omega),cf]
   exact second _ (by rw[C];rfl)
theorem tF {N:Nat} {a b:List Nat} {n m:Nat} {t o t' o':Bool} {K:Nat→Bool→LA→Option R} (hn:n=a.length) (F:m=b.length) (B:Al a) (C:Al b) (A:fit (a.length+b.length) N) :
  JD N (Ae a) n t o (Ae b) m t' o' K=if val b≤val a then K (Ar (val a - val b)).length true (Ae (Ar (val a - val b))) else K 0 false []:=by
 subst hn F
 have G:=A.1;have I:=A.2
 have la:=(Bu B).2
 have lb:=(Bu C).2
 rw[vN];unfold oE
 dsimp only
 rw[A5d rfl rfl B C A]
 by_cases k:val b≤val a
 ·have D:=B9 k
  rw[if_pos k,show decide (Ih (val a) (val b)<0)=false by (unfold Ih;rw[if_neg (by omega)];split<;>rfl),cf,Dt rfl B (A.le (by omega)),Dt rfl C (A.le (by omega)),A6c (by omega),ct,Da]
  have:=Anq (R:=R) (N:=N) (a:=Ar (val a)) (b:=Ar (val b)) (Ac _) (Ac _) (A.le (by omega)) D (by rw[Aj,Aj];exact k) (Ar (val a)).length 0 N (List.replicate (Ar (val a)).length 0) 0 (by omega) (by omega) (Cu _) (by simp) (Ni _) (by omega) (by rw[Em];simp[val]) K
  rw[Aj,Aj] at this
  exact this
 ·rw[if_neg k,show decide (Ih (val a) (val b)<0)=true by (unfold Ih;rw[if_pos (by omega)];rfl),ct]
theorem A2c {N:Nat} {x y:List Nat} {c d c' d':Bool} {f:Nat} (O:Al x) (T:Al y) (D:f<x.length) (hs:x.length+y.length≤1000000000000):∀ (m l fuel:Nat) (S:List Nat) (p:Nat) (v:Nat),l+m=y.length→m<fuel→Al S→S.length=x.length+y.length→A49 S (f+y.length)→p<4294967296 →
  val S+4294967296 ^ (f+l)*p=v+4294967296 ^ f*(x[f]*val (y.take l)) →
  ∃ S',Al S'∧S'.length=x.length+y.length∧val S'=v+4294967296 ^ f*(x[f]*val y)∧∀ (B:Nat→Int→LA→Option R) (K:Nat→LA→Option R),Sk N B K (Ae x) x.length c d (Ae y) y.length c' d' (x.length+y.length) fuel (f:Int) (p:Int) (l:Int) (Ae S)=B (x.length+y.length) ((f+1:Nat):Int) (Ae S')
 | 0,l,fuel+1,S,p,v,V,_,hS,k,G,F,I=>by
  have L:l=y.length:=by omega
  subst L
  rw[List.take_length] at I
  refine⟨S.set (f+y.length) p,Cx hS F _,by simpa using k,by rw[Xr G (by omega),I],fun B K=>?_⟩
  rw[Sk];unfold KG
  rw[Lb (Nat.le_refl _),cf,wA (by omega),Aa (by omega),ct,Aln (by omega),ct,A14 F,cQ,wS (by omega)]
 | m+1,l,fuel+1,S,p,v,V,Y,hS,k,G,F,I=>by
  have A:l<y.length:=by omega
  have yl:=Bc T A
  have hq:=Bc O D
  have hi:f+l<S.length:=by omega
  have sl:=Bc hS hi
  have hw:=Avd F hq yl sl
  have M:x[f]*y[l]<18446744073709551616:=by omega
  generalize C:p+(x[f]*y[l]+S[f+l])=s at *
  have U:=qD (v:=s%4294967296) hi
  have key:val (S.set (f+l) (s%4294967296))+4294967296 ^ (f+(l+1))*(s/4294967296)=v+4294967296 ^ f*(x[f]*val (y.take (l+1))):=by
   rw[A7 A,←Nat.add_assoc f l 1,Nat.pow_succ]
   have e:=Ov (4294967296 ^ (f+l)) s
   have e2:4294967296 ^ (f+l)*s=4294967296 ^ (f+l)*p+(4294967296 ^ (f+l)*(x[f]*y[l])+4294967296 ^ (f+l)*S[f+l]):=by rw[←C,Nat.mul_add,Nat.mul_add]
   have e3:4294967296 ^ f*(x[f]*(val (y.take l)+4294967296 ^ l*y[l]))=4294967296 ^ f*(x[f]*val (y.take l))+4294967296 ^ (f+l)*(x[f]*y[l]):=by
    rw[Nat.mul_add,Nat.mul_add,Nat.pow_add]
    congr 1
    rw[Nat.mul_assoc];congr 1
    rw[←Nat.mul_assoc,←Nat.mul_assoc,Nat.mul_comm x[f]]
   omega
  obtain⟨S',q1,q2,q3,q4⟩:=A2c (N:=N) (c:=c) (d:=d) (c':=c') (d':=d') O T D hs m (l+1) fuel (S.set (f+l) (s%4294967296)) (s/4294967296) v (by omega) (by omega) (Cx hS (by omega) _) (by simpa using k) (fun j hj hk=>by
   rw[List.getElem_set,if_neg (by omega)];exact G j (by simpa using hj) hk) (by omega) key
  refine⟨S',q1,q2,q3,fun B K=>?_⟩
  rw[Sk];unfold KG
  rw[Jp A,ct,wA (by omega),Aa (by omega),ct,oa hi,Aa D,ct,aH D,Aa A,ct,aH A,ct,Aln hi,ct,Jk (show x[f]<18446744073709551616 by omega),Jk (show y[l]<18446744073709551616 by omega),Jk (show S[f+l]<18446744073709551616 by omega),Aay,Jk M,N',Nat.add_comm S[f+l],Jk (by omega),N',C,Jk hw,sI,l7,cQ,wS (by omega)]
  exact q4 B K
theorem Avk {N:Nat} {x y:List Nat} {c d c' d':Bool} (G:Al x) (I:Al y) (k:fit (x.length+y.length) N):∀ (m f fuel:Nat) (S:List Nat),f+m=x.length→m<fuel→Al S→S.length=x.length+y.length →
  val S=val (x.take f)*val y →
  ∀ K:Nat→LA→Option R,Lu N K (Ae x) x.length c d (Ae y) y.length c' d' fuel (x.length+y.length) (f:Int) (Ae S)=K (Ar (val x*val y)).length (Ae (Ar (val x*val y)))
 | 0,f,fuel+1,S,O,_,hS,A,F=>by
  intro K
  have L:f=x.length:=by omega
  subst L
  rw[List.take_length] at F
  rw[Lu];unfold KH
  rw[Lb (Nat.le_refl _),cf,Nat.mul_one,List.take_of_length_le (by rw[B7];omega),Dt A.symm hS (by rw[A];exact k),F]
 | m+1,f,fuel+1,S,O,T,hS,A,F=>by
  intro K
  have h1:=k.1;have h2:=k.2
  have C:f<x.length:=by omega
  have M:=Bm (Co G f)
  rw[List.length_take,Nat.min_eq_left (by omega)] at M
  have U:=Bm I
  have B:val S<4294967296 ^ (f+y.length):=by
   rw[F,Nat.pow_add];exact Nat.mul_lt_mul'' M U
  have D:val (x.take (f+1))*val y=val S+4294967296 ^ f*(x[f]*val y):=by
   rw[A7 C,Nat.add_mul,F,Nat.mul_assoc]
  obtain⟨S1,p1,p2,V,Y⟩:=A2c (R:=R) (N:=N) (x:=x) (y:=y) (c:=c) (d:=d) (c':=c') (d':=d') (f:=f) G I C (by omega) y.length 0 N S 0 (val S) (by omega) (by omega) hS A (A67 B) (by omega) (by simp[val])
  rw[Lu];unfold KH
  rw[Jp C,ct]
  have:=Y (Lu N K (Ae x) x.length c d (Ae y) y.length c' d' fuel) K
  simp only[Int.natCast_zero] at this
  dsimp only
  rw[this]
  exact Avk G I k m (f+1) fuel S1 (by omega) (by omega) p1 p2 (by rw[V,D]) K
theorem A5e {N:Nat} {a b:List Nat} {n m:Nat} {t o t' o':Bool} {K:Nat→LA→Option R} (hn:n=a.length) (A:m=b.length) (B:Al a) (C:Al b) (k:fit (a.length+b.length) N) :
  gX N (Ae a) n t o (Ae b) m t' o' K=K (Ar (val a*val b)).length (Ae (Ar (val a*val b))):=by
 subst hn A
 have D:=k.1;have F:=k.2
 rw[wQ];unfold pS
 rw[wA (by omega),A6c (by omega),ct,Int.toNat_natCast,Da]
 exact Avk B C k a.length 0 N (List.replicate (a.length+b.length) 0) (by omega) (by omega) (Cu _) (by simp) (by rw[Em];simp[val]) K
end
end Gx
