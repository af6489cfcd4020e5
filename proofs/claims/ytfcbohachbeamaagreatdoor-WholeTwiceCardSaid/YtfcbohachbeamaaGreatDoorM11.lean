/- What the laws' code answers: part 11 of what the rows of this seat lean on. -/
import Derived.Test.YtfcbohachbeamaaGreatDoorM10
import Derived.Test.YtfcbohachbeamaaGreatDoorM8
import Derived.Test.YtfcbohachbeamaaGreatDoorM9
import Derived.Test.YtfcbohachbeamaaGreatDoorM5
import Derived.Lib.AppendIntMem
import Derived.Lib.ItoaMem
import Derived.Lib.ItoaLen
import Derived.Lib.LaidTab
set_option linter.unusedVariables false
set_option linter.unusedSimpArgs false
set_option maxHeartbeats 8000000
set_option maxRecDepth 100000
section
namespace Go.VC
theorem aDU {sp:VC.Spec} {k:Nat} {c:SC} {n:Nat} {s:St} {Q:AX->St->Prop} : pD sp k c (n+1) s Q=bY sp k c s (sK (fun s'=>pD sp k c n s' Q) Q):=by
 unfold pD bY cO
 rw [iter]
 cases bQ sp k c s with
 | none=>rfl
 | some x=>
  obtain ⟨a,s'⟩:=x
  cases a<;>rfl
structure H5 where
 a:Nat
 b:Nat
 c:Nat
 d:Nat
 e:Nat
def H5.ok (h:H5):Prop:=h.a<4294967296/\h.b<4294967296/\h.c<4294967296/\h.d<4294967296/\h.e<4294967296
def H5.cells (k:IntKind) (h:H5):List AC:= [.v (.int k (h.a:Int)),.v (.int k (h.b:Int)),.v (.int k (h.c:Int)),.v (.int k (h.d:Int)),.v (.int k (h.e:Int))]
def Jq (k:IntKind):AP->Bool
 | .g [a,b,c,d,e]=>lF k (.c a)&&lF k (.c b)&&lF k (.c c)&&lF k (.c d)&&lF k (.c e)
 | _=>false
def Lq:AP->H5
 | .g [a,b,c,d,e]=>⟨wG (.c a),wG (.c b),wG (.c c),wG (.c d),wG (.c e)⟩
 | _=>⟨0,0,0,0,0⟩
theorem La {k:IntKind} {a:AC} (h:lF k (.c a)=true):a = .v (.int k ((wG (.c a):Nat):Int))/\wG (.c a)<4294967296:=by
 obtain ⟨h1,h2⟩:=(mR k).some (a:= .c a) h
 exact ⟨by have:=AP.c.inj h1;exact this,h2⟩
def Ov (k:IntKind):Co H5 where
 e h:= .g (h.cells k)
 p h:=h.ok
 v a:=Jq k a=true
 dv a:=inferInstance
 t:=Lq
 some {a} h:=by
  unfold Jq at h
  split at h
  ·simp only [Bool.and_eq_true] at h
   obtain ⟨⟨⟨⟨h1,h2⟩,h3⟩,h4⟩,h5⟩:=h
   obtain ⟨e1,l1⟩:=La h1
   obtain ⟨e2,l2⟩:=La h2
   obtain ⟨e3,l3⟩:=La h3
   obtain ⟨e4,l4⟩:=La h4
   obtain ⟨e5,l5⟩:=La h5
   refine ⟨?_,l1,l2,l3,l4,l5⟩
   simp only [Lq,H5.cells]
   rw [← e1,← e2,← e3,← e4,← e5]
  ·cases h
 enc {h} hp:=by
  obtain ⟨h1,h2,h3,h4,h5⟩:=hp
  refine ⟨?_,?_⟩
  ·have g : ∀ x:Nat,x<4294967296->lF k (.c (.v (.int k (x:Int))))=true:=fun x hx=>((mR k).enc (x:=x) hx).1
   show (lF k (.c _)&&lF k (.c _)&&lF k (.c _)&&lF k (.c _)&&lF k (.c _))=true
   rw [g _ h1,g _ h2,g _ h3,g _ h4,g _ h5];rfl
  ·show H5.mk _ _ _ _ _=h
   simp
theorem aHD {k k1 k2 k3 k4 k5:IntKind} {a b c d e:Int} : (Jq k (.g [.v (.int k1 a),.v (.int k2 b),.v (.int k3 c),.v (.int k4 d),.v (.int k5 e)])=true)=((k1=k/\0<=a/\a<4294967296)/\(k2=k/\0<=b/\b<4294967296)/\(k3=k/\0<=c/\c<4294967296)/\(k4=k/\0<=d/\d<4294967296)/\(k5=k/\0<=e/\e<4294967296)):=by
 simp only [Jq,Bool.and_eq_true,aAr,and_assoc]
theorem aQ0 {k1 k2 k3 k4 k5:IntKind} {a b c d e:Int} : Lq (.g [.v (.int k1 a),.v (.int k2 b),.v (.int k3 c),.v (.int k4 d),.v (.int k5 e)])=⟨a.toNat,b.toNat,c.toNat,d.toNat,e.toNat⟩:=_root_.id rfl
theorem aCg {k:IntKind} {h:H5} : (Ov k).e h = .g [.v (.int k (h.a:Int)),.v (.int k (h.b:Int)),.v (.int k (h.c:Int)),.v (.int k (h.d:Int)),.v (.int k (h.e:Int))]:=_root_.id rfl
theorem aKF {k:IntKind} {a:AP} : (Ov k).v a=(Jq k a=true):=_root_.id rfl
theorem aBD {k:IntKind} {a:AP} : (Ov k).t a=Lq a:=_root_.id rfl
attribute [simp] aHD aQ0 aCg aKF aBD
end Go.VC
namespace Go.Proofs.YtfcbohachbeamaaGreatDoor.E
open Go.VC Go.RowKit
def Jy (x:H5) (t w:Nat):H5:=⟨(jB x.a 5+fN t x.b x.c x.d+x.e+kN t+w)%4294967296,x.a,jB x.b 30,x.c,x.d⟩
def lA (ws:List Nat) (h:H5):Nat->H5
 | 0=>h
 | t+1=>Jy (lA ws h t) t (ws.getD t 0)
def Ju (x y:H5):H5:=⟨(x.a+y.a)%4294967296,(x.b+y.b)%4294967296,(x.c+y.c)%4294967296,(x.d+y.d)%4294967296,(x.e+y.e)%4294967296⟩
def comp (b:List UInt8) (h:H5):H5:=Ju h (lA (bP b 80) h 80)
theorem o3 (ws:List Nat) (h:H5):lA ws h 0=h:=rfl
theorem l9 (ws:List Nat) (h:H5) (t:Nat):lA ws h (t+1)=Jy (lA ws h t) t (ws.getD t 0):=rfl
theorem Xa (b:List UInt8) (h:H5):comp b h=Ju h (lA (bP b 80) h 80):=rfl
attribute [irreducible] comp
theorem aI9 {x:H5} {t w:Nat} (h:x.ok):(Jy x t w).ok:=⟨Nat.mod_lt _ (by decide),h.1,Dr h.2.1 (.inr (.inr rfl)),h.2.2.1,h.2.2.2.1⟩
theorem Mj {ws:List Nat} {h:H5} (ho:h.ok) : ∀ t,(lA ws h t).ok
 | 0=>ho
 | t+1=>aI9 (Mj ho t)
attribute [irreducible] lA
theorem aDk (x y:H5):(Ju x y).ok:=⟨Nat.mod_lt _ (by decide),Nat.mod_lt _ (by decide),Nat.mod_lt _ (by decide),Nat.mod_lt _ (by decide),Nat.mod_lt _ (by decide)⟩
theorem aQT {a b c d e:Nat} (ha:a<4294967296) (hb:b<4294967296) (hc:c<4294967296) (hd:d<4294967296) (he:e<4294967296) :
 IntKind.u32.wrap (IntKind.u32.wrap (IntKind.u32.wrap (IntKind.u32.wrap ((a:Int)+b)+c)+d)+e)=(((a+b+c+d+e)%4294967296:Nat):Int):=by
 simp only [IntKind.wrap_u32];omega
theorem aH3 {a b:Nat} : IntKind.u32.wrap ((a:Int)+b)=(((a+b)%4294967296:Nat):Int):=by
 simp only [IntKind.wrap_u32];omega
theorem mX {x:Value} : (AC.v x).known=true:=rfl
theorem aD7 {x:Value} : (AC.v x).free=true:=rfl
theorem aMr {k:IntKind} {l:List Int} : (AC.r k l).free=true:=rfl
abbrev aPZ:=s3 (cV 1000) jJ (Ov .u32) (fun _ b _=>b.length=64) fun _ b h=> .io [1000] [.g ((comp b h).cells .u32)] []
theorem aDo:Ok Tryz.prog 151 aPZ:=Wf (aG Tryz.func151 nE.ent nE.aA (aB aSk (aB aFv (aB aL1 (aB aLM aH))))) 1000 [(1000,1000)] (by decide) (by decide) (by decide) (by decide) (by simp [nE.c]) fun _ b h _ _ hh hb=>by
 refine ⟨⟨_,_,rfl⟩,81,?_⟩
 obtain ⟨ha,hb',hc,hd,he⟩:h.ok:=hh
 have hl:=Cd b 80
 have hlt:=rV b 80
 rw [Xa]
 simp only [nE.c,fL,fC,fJ,fG]
 simp [-AC.known,-AC.free,hb,qY,hl,aAL,aAG,mX,aD7,aMr]
 clear hb
 generalize bP b 80=W at *
 refine iO (fun i s=>s.tm 0 = .o (.c (.p 1000 0))/\s.tm 5 = .o (.c (.p 5 0))/\s.tm 15 = .o (.g (cw .u32 W))/\s.tm 16 = .o (iv .i64 (i:Int))/\s.mem 1000=some (h.cells .u32)/\s.mem 5=some ((lA W h i).cells .u32)) 80 ?_ ?_ 81 _ (by decide) ?_
 ·rintro i s hi ⟨t0,t5,t15,t16,m0,m5⟩
  obtain ⟨xa,xb,xc,xd,xe⟩:(lA W h i).ok:=Mj ⟨ha,hb',hc,hd,he⟩ i
  have hx:=l9 W h i
  have gw:=rN .u32 W [] (i:=i) (by omega)
  rw [List.append_nil] at gw
  have lw:=hlt i
  have h1:(i:Int)<80:=by omega
  have w1:IntKind.i64.wrap ((i:Int)+1)=(i:Int)+1:=aD (by omega) (by omega)
  generalize lA W h i=x at m5 hx xa xb xc xd xe
  generalize W.getD i 0=w at gw lw hx
  have r5:=Dr xa (.inr (.inl rfl))
  have r30:=Dr xb (.inr (.inr rfl))
  have lf:=Zc (t:=i) xb xc xd
  have lk:=H7 i
  have sm:=aQT r5 lf xe lk lw
  simp [-List.getD_eq_getElem?_getD,nE.l1,t0,t5,t15,t16,m0,m5,h1,hi,w1,H5.cells,gw,xa,xb,xc,xd,xe,sm,Jy,hx]
  exact ⟨⟨Int.ofNat_lt.2 xa,.inr (.inl rfl)⟩,⟨by omega,Int.ofNat_lt.2 xb,Int.ofNat_lt.2 xc,Int.ofNat_lt.2 xd⟩,by omega,Int.ofNat_lt.2 xb,.inr (.inr rfl)⟩
 ·rintro s ⟨t0,t5,t15,t16,m0,m5⟩
  generalize lA W h 80=x at *
  have c1:IntKind.i64.wrap 1=1:=by decide
  have c2:IntKind.i64.wrap 2=2:=by decide
  have c3:IntKind.i64.wrap 3=3:=by decide
  have c4:IntKind.i64.wrap 4=4:=by decide
  have c5:IntKind.i64.wrap 5=5:=by decide
  simp [c1,c2,c3,c4,c5,nE.l1,nE.l2,aDU,t0,t5,t15,t16,m0,m5,H5.cells,aH3,Ju]
 ·simp [o3,H5.cells,x6,List.take_of_length_le (show W.length<=80 by omega)]
end Go.Proofs.YtfcbohachbeamaaGreatDoor.E
end
section
namespace Go.VC
def cb (l:List UInt8):List AC:=l.map fun c=>AC.v (.int .u8 (c.toNat:Int))
theorem Zw (l:List UInt8):(nb l).map (fun x=>AC.v (.int .u8 x))=cb l:=by
 unfold nb cb
 rw [List.map_map]
 rfl
theorem k9 {s:St} {e:IntKind} {l:List Int} : fE 1 s (.o (.c (.r e l)))=some ([],l.length,l.map fun x=> .v (.int e x)):=_root_.id rfl
theorem Pr (l:List UInt8) (x:UInt8):cb l ++ [.v (.int .u8 (x.toNat:Int))]=cb (l ++ [x]):=by simp [cb]
theorem kO (l:List UInt8):(cb l).length=l.length:=by simp [cb]
theorem F9:cb [] = []:=_root_.id rfl
theorem nM (ns:List Nat) (l:List UInt8):(cb l).map (fun x=>AC.kill ns x)=cb l:=by simp [cb,AC.kill]
theorem oN (l:List UInt8):(cb l).take l.length=cb l:=List.take_of_length_le (by rw [kO];omega)
theorem Zn : ∀ (l:List UInt8),rQ .u8 (cb l)=some (nb l)
 | []=>rfl
 | x::l=>by
  have:=Zn l
  simp only [cb,nb,List.map_cons,rQ] at this ⊢
  rw [this]
  simp
theorem aFh (e:TypeId) (l:List UInt8):fS ⟨e,1,some .u8⟩ l.length (cb l) = .r .u8 (nb l):=by
 unfold fS
 rw [kO,if_pos (show l.length*1<=l.length by omega)]
 dsimp only
 rw [if_pos rfl,oN,Zn]
theorem Y8 (l:List UInt8):(∀ x,x∈cb l->x.known=true)=True:=eq_true (by
 intro x hx
 simp only [cb,List.mem_map] at hx
 obtain ⟨y,-,rfl⟩:=hx
 rfl)
theorem mX {x:Value} : (AC.v x).known=true:=_root_.id rfl
end Go.VC
namespace Go.Proofs.YtfcbohachbeamaaGreatDoor.E
open Go.VC Go.RowKit
def lK (n:Nat):Nat:=(119-n%64)%64
def mW (v j:Nat):List UInt8:=(List.range j).map fun i=>UInt8.ofNat (v/2 ^ (56-8*i)%256)
def pad (b:List UInt8):List UInt8:=b++128::(List.replicate (lK b.length) 0++mW (b.length*8) 8)
theorem aA3 (v j:Nat):mW v (j+1)=mW v j ++ [UInt8.ofNat (v/2 ^ (56-8*j)%256)]:=by simp [mW,List.range_succ]
theorem aIE (v j:Nat):(mW v j).length=j:=by simp [mW]
theorem Xf (b:List UInt8):(pad b).length=b.length+lK b.length+9:=by simp [pad,aIE];omega
theorem Xu (b:List UInt8):(pad b).length%64=0:=by rw [Xf];unfold lK;omega
theorem Vn (n:Nat):lK n<64:=Nat.mod_lt _ (by decide)
abbrev aRc:=s1 jJ (fun b=>b.length<=1000000) fun b=> .o (.c (.r .u8 (nb (pad b))))
theorem aC7:Ok Tryz.prog 150 aRc:=cA (aG Tryz.func150 jU.ent jU.aA aH) (by simp [jU.c]) fun b _ hb=>by
 refine ⟨80,?_⟩
 have hz:=Vn b.length
 have hb1:b.length<=1000000000000:=by omega
 have hb2:b.length<=999999999999:=by omega
 simp only [jU.c,fL,fC,fJ,fG]
 simp [-AC.known,k9,kO,yG,hb1,hb2,Zw,Y8,mX,nM,F9,oN]
 have hpz : ∀ i:Nat,i<=lK b.length->((b.length:Int)+1+(i:Int))%64=56->i=lK b.length:=by
  intro i hi h
  unfold lK at hi hz ⊢
  omega
 have hpz2:((b.length:Int)+1+(lK b.length:Int))%64=56:=by unfold lK;omega
 refine iO (fun i s=>s.tm 0 = .o (.c (.r .u8 (nb b)))/\s.mem 17=none/\s.mem 32=none/\s.mem 33=none /\ ∃ q acc,(q=18∨(q=11/\s.mem 18=none))/\acc=b++128::List.replicate i 0/\acc.length=b.length+1+i/\s.tm 3 = .o (.c (.s ⟨5,1,some .u8⟩ q acc.length))/\s.mem q=some (cb acc)) (lK b.length) ?_ ?_ 80 _ (by omega) ?_
 ·rintro i s hi ⟨t0,m17,m32,m33,q,acc,hq,he,hl,t3,mq⟩
  have e1:(acc.length:Int).tmod 64=(acc.length:Int)%64:=Int.tmod_eq_emod_of_nonneg (by omega)
  have e2 : ¬ (acc.length:Int)%64=56:=by
   rw [hl]
   intro h
   have:=hpz i (by omega) (by push_cast at h;exact h)
   omega
  have e3:acc.length<=999999999999:=by omega
  have e4:acc ++ [0]=b++128::List.replicate (i+1) 0:=by rw [he,List.replicate_succ'];simp
  have e5:cb acc ++ [.v (.int .u8 0)]=cb (acc ++ [0]):=Pr acc 0
  rcases hq with rfl | ⟨rfl,m18⟩
  ·simp [-AC.known,jU.l1,t0,t3,m17,m32,m33,mq,e1,e2,e3,kO,oN,nM,mX,e5]
   exact ⟨by omega,by omega,by rw [e4]⟩
  ·simp [-AC.known,jU.l1,t0,t3,m17,m18,m32,m33,mq,e1,e2,e3,kO,oN,nM,mX,e5]
   exact ⟨by omega,by omega,by rw [e4]⟩
 ·rintro s ⟨t0,m17,m32,m33,q,acc,hq,he,hl,t3,mq⟩
  have e1:(acc.length:Int).tmod 64=(acc.length:Int)%64:=Int.tmod_eq_emod_of_nonneg (by omega)
  have e2:(acc.length:Int)%64=56:=by rw [hl];push_cast;exact hpz2
  have w1:IntKind.u64.wrap (b.length:Int)=(b.length:Int):=rK (by omega) (by omega)
  have w2:IntKind.u64.wrap ((b.length:Int)*8)=((b.length*8:Nat):Int):=by rw [rK (by omega) (by omega)];omega
  simp [-AC.known,jU.l1,t0,t3,m17,m32,m33,mq,e1,e2,yG,w1,w2]
  have hv:b.length*8<0x10000000000000000:=by omega
  have hcast:((b.length:Int)*8)=((b.length*8:Nat):Int):=by omega
  have hpad:pad b=acc++mW (b.length*8) 8:=by rw [he];simp [pad]
  rw [hcast]
  generalize b.length*8=v at *
  refine iO (fun j s=>s.tm 4 = .o (.c (.v (.int .u64 (v:Int))))/\s.tm 5 = .o (iv .i64 (56-8*(j:Int)))/\s.mem 32=none /\ ∃ q bc,(q=33∨((q=18∨q=11)/\s.mem 33=none))/\bc=acc++mW v j/\bc.length=acc.length+j/\s.tm 3 = .o (.c (.s ⟨5,1,some .u8⟩ q bc.length))/\s.mem q=some (cb bc)) 8 ?_ ?_ 80 _ (by decide) ?_
  ·rintro j s hj ⟨t4,t5,m32,q,bc,hq,hbc,hlb,t3,mq⟩
   have g0:0<=56-8*(j:Int):=by omega
   have g1:(56-8*(j:Int)).toNat=56-8*j:=by omega
   have g2:min (56-8*j) IntKind.u64.bits=56-8*j:=Nat.min_eq_left (show 56-8*j<=64 by omega)
   have g3:(v:Int).fdiv (2 ^ (56-8*j))=((v/2 ^ (56-8*j):Nat):Int):=by
    rw [Int.fdiv_eq_ediv_of_nonneg _ (Int.pow_nonneg (by decide)),Int.natCast_ediv,Int.natCast_pow];rfl
   have g4:IntKind.u8.wrap ((v/2 ^ (56-8*j):Nat):Int)=(((UInt8.ofNat (v/2 ^ (56-8*j)%256)).toNat:Nat):Int):=by
    generalize v/2 ^ (56-8*j)=y
    rw [UInt8.toNat_ofNat',IntKind.wrap_u8]
    omega
   have g5:IntKind.i64.wrap (56-8*(j:Int)-8)=56-8*((j:Int)+1):=by rw [aD (by omega) (by omega)];omega
   have g6:bc.length<=999999999999:=by omega
   have g7:8*(j:Int)<=56:=by omega
   have hb8:=aA3 v j
   generalize UInt8.ofNat (v/2 ^ (56-8*j)%256)=y at *
   have e5:=Pr bc y
   have e6:acc++mW v (j+1)=bc ++ [y]:=by rw [hb8,hbc];simp
   rcases hq with rfl | ⟨rfl | rfl,m33⟩
   ·simp [-AC.known,jU.l2,t3,t4,t5,m32,mq,g0,g1,g2,g3,g4,g5,g6,g7,kO,oN,nM,mX,e5,e6]
    refine ⟨by omega,?_⟩
    rw [show min (56-8*j) 64=56-8*j by omega,g3,g4]
    exact e5
   ·simp [-AC.known,jU.l2,t3,t4,t5,m32,m33,mq,g0,g1,g2,g3,g4,g5,g6,g7,kO,oN,nM,mX,e5,e6]
    refine ⟨by omega,?_⟩
    rw [show min (56-8*j) 64=56-8*j by omega,g3,g4]
    exact e5
   ·simp [-AC.known,jU.l2,t3,t4,t5,m32,m33,mq,g0,g1,g2,g3,g4,g5,g6,g7,kO,oN,nM,mX,e5,e6]
    refine ⟨by omega,?_⟩
    rw [show min (56-8*j) 64=56-8*j by omega,g3,g4]
    exact e5
  ·rintro s ⟨t4,t5,m32,q,bc,hq,hbc,hlb,t3,mq⟩
   have e:bc=pad b:=by rw [hpad,hbc]
   subst e
   rcases hq with rfl | ⟨rfl | rfl,m33⟩<;>simp [jU.l2,t3,t4,t5,mq,aFh]
  ·rcases hq with rfl | ⟨rfl,m18⟩<;>simp [t3,mq,m32,m33,mW]
 ·simp [cb,kO]
def h0:H5:=⟨1732584193,4023233417,2562383102,271733878,3285377520⟩
theorem Rk:h0.ok:=by
 refine ⟨?_,?_,?_,?_,?_⟩<;>simp only [h0]<;>omega
theorem Xi (b:List UInt8) (h:H5):(comp b h).ok:=by rw [Xa];exact aDk _ _
def sF (f:List UInt8->H5->H5):Nat->List UInt8->H5->H5
 | 0,_,h=>h
 | n+1,l,h=>sF f n (l.drop 64) (f (l.take 64) h)
theorem Vx (f:List UInt8->H5->H5) (l:List UInt8) (h:H5):sF f 0 l h=h:=rfl
theorem Vp (f:List UInt8->H5->H5) (n:Nat) (l:List UInt8) (h:H5):sF f (n+1) l h=sF f n (l.drop 64) (f (l.take 64) h):=rfl
theorem aBQ {f:List UInt8->H5->H5} (hf : ∀ l h,(f l h).ok) (n:Nat) : ∀ l h,h.ok->(sF f n l h).ok:=by
 induction n with
 | zero=>intro l h ho;rw [Vx];exact ho
 | succ n ih=>intro l h ho;rw [Vp];exact ih _ _ (hf _ _)
def oT (b:List UInt8):H5:=sF comp ((pad b).length/64) (pad b) h0
theorem Uc (b:List UInt8):(oT b).ok:=aBQ Xi _ _ _ Rk
abbrev aIY:=s0 (.o (.g (h0.cells .u32)))
theorem aP5:Ok Tryz.prog 149 aIY:=Vy (aG Tryz.func149 Hq.ent Hq.aA aH) ⟨0,by simp [Hq.c,H5.cells,h0]⟩
end Go.Proofs.YtfcbohachbeamaaGreatDoor.E
end
section
namespace Go.Proofs.YtfcbohachbeamaaGreatDoor.E
open Go.VC Go.RowKit
abbrev aIb:=s1 jJ (fun b=>b.length<=1000000) fun b=> .o (.g ((oT b).cells .u32))
theorem aMa:Ok Tryz.prog 115 aIb:=cA (aG Tryz.func115 rR.ent rR.aA (aB aP5 (aB aC7 (aB aDo aH)))) (by simp [rR.c]) fun b _ hb=>by
 refine ⟨(pad b).length+1,?_⟩
 have hpl:=Xf b
 have hz:=Vn b.length
 have hpm:=Xu b
 simp only [rR.c,fL,fC,fJ,fG,oT]
 simp [hb,H5.cells]
 generalize pad b=p at *
 generalize hR:sF comp (p.length/64) p h0=R
 refine lL (fun m s=> ∃ l h,m=l.length/\l.length<=p.length/\l.length%64=0/\h.ok/\R=sF comp (l.length/64) l h/\s.tm 3 = .o (.c (.p 3 0))/\s.tm 4 = .o (.c (.r .u8 (nb l)))/\s.mem 3=some (h.cells .u32)/\s.mem 2=some (Jx 5)/\s.tm 2 = .o (.c (.p 2 0))) ?_ _ p.length _ (by omega) ?_
 ·rintro m s ⟨l,h,rfl,hl,hm,ho,hr,t3,t4,m3,m2,t2⟩
  by_cases h0:l.length=0
  ·have e:l = []:=List.length_eq_zero_iff.1 h0
   subst e
   simp only [List.length_nil,Nat.zero_div,Vx] at hr
   subst hr
   simp [rR.l1,t2,t3,t4,m2,m3,aIP,H5.cells]
  ·have h1:0<l.length:=by omega
   have h2:64<=l.length:=by omega
   have h2':(64:Int)<=(l.length:Int):=by omega
   obtain ⟨n,hn⟩ : ∃ n,l.length/64=n+1:=⟨l.length/64-1,by omega⟩
   rw [hn,Vp] at hr
   have e1:(l.drop 64).length/64=n:=by rw [List.length_drop];omega
   have e3:(l.take 64).length=64:=by rw [List.length_take];omega
   have ho':=Xi (l.take 64) h
   obtain ⟨ha,hb',hc,hd,he⟩:=ho
   simp [rR.l1,t2,t3,t4,m2,m3,yG,aFu,aHM,H5.cells,h1,h2,h2',ha,hb',hc,hd,he]
   exact ⟨⟨Int.ofNat_lt.2 ha,Int.ofNat_lt.2 hb',Int.ofNat_lt.2 hc,Int.ofNat_lt.2 hd,Int.ofNat_lt.2 he⟩,_,by rw [List.length_drop];omega,l.drop 64,rfl,by rw [List.length_drop];omega,by rw [List.length_drop];omega,comp (l.take 64) h,ho',by rw [e1];exact hr,rfl,rfl,rfl,rfl,rfl,rfl⟩
 ·exact ⟨p,h0,rfl,Nat.le_refl _,hpm,Rk,hR.symm,by simp,by simp,by simp [H5.cells,h0],by simp;rfl,by simp⟩
abbrev xP (n:Nat):List AC:=List.replicate n (.v (.int .i64 0))
abbrev Kf:VC.Spec:=gV [(72,Yc)]
def part (b:List UInt8) (t:Nat):Nat->Nat
 | 0=>0
 | k+1=>part b t k*256+(b.getD (4*t+k) 0).toNat
theorem Zr (b:List UInt8) (t:Nat) : ∀ k,part b t k<256 ^ k
 | 0=>by simp [part]
 | k+1=>by
  have h:=Zr b t k
  have u:=(b.getD (4*t+k) 0).toNat_lt
  rw [part,Nat.pow_succ]
  omega
theorem aPU (b:List UInt8) (t:Nat):part b t 4=vJ b t:=by
 simp only [part,vJ,Nat.add_zero]
 omega
structure qQ (p:List UInt8) (at_:Nat) (s:St):Prop where
 t3:s.tm 3 = .o (.c (.s ⟨5,1,some .u8⟩ 47 p.length))
 t6:s.tm 6 = .o (iv .i64 (at_:Int))
 t7:s.tm 7 = .o (.c (.s ⟨3,1,some .i64⟩ 55 80))
 t2:s.tm 2 = .o (.c (.p 2 0))
 t5:s.tm 5 = .o (.c (.p 5 0))
 dY:s.mem 47=some (cb p)
theorem aEY (l:List UInt8) {i:Nat} (h:i<l.length):(cb l)[i]? = some (.v (.int .u8 ((l.getD i 0).toNat:Int))):=by
 simp [cb,List.getD_eq_getElem?_getD,List.getElem?_eq_getElem h]
theorem get_at (l Z:List AC) (v:AC) {i:Nat} (h:l.length=i):(l++v::Z)[i]? = some v:=by
 subst h;simp
theorem aH6 (l Z:List AC) (a v:AC) {i:Nat} (h:l.length=i):(l++a::Z).take i++v::(l++a::Z).drop (i+1)=l++v::Z:=by
 rw [List.take_left' h]
 congr 1
 have:(l++a::Z).drop (i+1)=Z:=by
  rw [List.drop_append,h,List.drop_eq_nil_of_le (by omega)]
  simp
 rw [this]
theorem drop_at (l Z:List AC) (a:AC) {i:Nat} (h:l.length=i):(l++a::Z).drop (i+1)=Z:=by
 rw [List.drop_append,h,List.drop_eq_nil_of_le (by omega)]
 simp
theorem aHI (p:List UInt8) (at_ t n:Nat) (W Z:List AC) (hat:at_+64<=p.length) (hp:p.length<=2000000) (ht:t<16) (hW:W.length=t) (hZ:Z.length=79-t) (Q:AX->St->Prop) (hn:4<n) (s:St) (B:qQ p at_ s) (t8:s.tm 8 = .o (iv .i64 (t:Int))) (t9:s.tm 9 = .o (iv .i64 0)) (m55:s.mem 55=some (W ++ .v (.int .i64 0)::Z))
 (h : ∀ s',qQ p at_ s'->s'.tm 8 = .o (iv .i64 (t:Int))->s'.mem=aP s.mem 55 (some (W ++ .v (.int .i64 ((vJ ((p.drop at_).take 64) t:Nat):Int))::Z))->Q (.e 8) s') (k:Nat):pD Kf k cF.l3 n s Q:=by
 refine iO (fun i s'=>qQ p at_ s'/\s'.tm 8 = .o (iv .i64 (t:Int))/\s'.tm 9 = .o (iv .i64 (i:Int))/\s'.mem=aP s.mem 55 (some (W ++ .v (.int .i64 ((part ((p.drop at_).take 64) t i:Nat):Int))::Z))) 4 ?_ ?_ n s hn ?_
 ·rintro i s' hi ⟨B',t8',t9',mm⟩
  obtain ⟨b3,b6,b7,b2,b5,b47⟩:=B'
  have h1:(i:Int)<4:=by omega
  have w1:IntKind.i64.wrap ((i:Int)+1)=(i:Int)+1:=aD (by omega) (by omega)
  have pl:=Zr ((p.drop at_).take 64) t i
  have pl2:part ((p.drop at_).take 64) t i<16777216:=by
   have:256 ^ i<=256 ^ 3:=Nat.pow_le_pow_right (by decide) (by omega)
   omega
  have hb:((p.drop at_).take 64).getD (4*t+i) 0=p.getD (at_+4*t+i) 0:=by
   simp only [List.getD_eq_getElem?_getD]
   rw [List.getElem?_take,if_pos (by omega),List.getElem?_drop]
   congr 2;omega
  have hpart:part ((p.drop at_).take 64) t (i+1)=part ((p.drop at_).take 64) t i*256+(p.getD (at_+4*t+i) 0).toNat:=by rw [part,hb]
  have u:=(p.getD (at_+4*t+i) 0).toNat_lt
  have g:=aEY p (i:=at_+4*t+i) (by omega)
  have e1:IntKind.i64.wrap (4*(t:Int))=((4*t:Nat):Int):=by rw [aD (by omega) (by omega)];omega
  have e2:IntKind.i64.wrap ((at_:Int)+((4*t:Nat):Int))=((at_+4*t:Nat):Int):=by rw [aD (by omega) (by omega)];omega
  have e3:IntKind.i64.wrap (((at_+4*t:Nat):Int)+(i:Int))=((at_+4*t+i:Nat):Int):=by rw [aD (by omega) (by omega)];omega
  have e4:((at_+4*t+i:Nat):Int)<(p.length:Int):=by omega
  generalize part ((p.drop at_).take 64) t i=v at *
  generalize part ((p.drop at_).take 64) t (i+1)=v' at *
  generalize (p.getD (at_+4*t+i) 0).toNat=y at *
  have e5:IntKind.i64.wrap ((v:Int)*256)=((v*256:Nat):Int):=by rw [aD (by omega) (by omega)];omega
  have e6:IntKind.i64.wrap (y:Int)=(y:Int):=aD (by omega) (by omega)
  have e7:IntKind.i64.wrap (((v*256:Nat):Int)+(y:Int))=(v':Int):=by rw [aD (by omega) (by omega),hpart];omega
  have m55':s'.mem 55=some (W ++ .v (.int .i64 (v:Int))::Z):=by rw [mm];simp
  have m47':s'.mem 47=some (cb p):=b47
  have gt:=get_at W Z (.v (.int .i64 (v:Int))) hW
  have dt:=drop_at W Z (.v (.int .i64 (v:Int))) hW
  have ht80:(t:Int)<80:=by omega
  simp [-List.getD_eq_getElem?_getD,-Int.natCast_add,-Int.natCast_mul,cF.l3,b2,b3,b5,b6,b7,t8',t9',m55',m47',h1,w1,e1,e2,e3,e4,e5,e6,e7,g,gt,ht80]
  refine ⟨by omega,by rw [kO];omega,by omega,⟨by simp [b3],by simp [b6],by simp [b7],by simp [b2],by simp [b5],by simp [b47]⟩,?_⟩
  refine ⟨by omega,?_⟩
  rw [aH6 W Z _ _ hW,mm]
  funext m
  by_cases hm:m=55<;>simp [hm]
 ·rintro s' ⟨B',t8',t9',mm⟩
  rw [aPU] at mm
  simp [cF.l3,t9']
  obtain ⟨b3,b6,b7,b2,b5,b47⟩:=B'
  exact h _ ⟨by simp [b3],by simp [b6],by simp [b7],by simp [b2],by simp [b5],by simp [b47]⟩ (by simp [t8']) mm
 ·refine ⟨B,t8,t9,?_⟩
  funext m
  by_cases hm:m=55
  ·subst hm;simp [m55,part]
  ·simp [hm]
theorem H8 (f:Nat->Option (List AC)) (n:Nat) (a b:Option (List AC)):aP (aP f n a) n b=aP f n b:=by
 funext m
 by_cases h:m=n<;>simp [h]
theorem aHe (p:List UInt8) (at_ k n:Nat) (hat:at_+64<=p.length) (hp:p.length<=2000000) (Q:AX->St->Prop) (hk:4<k) (hn:16<n) (s:St) (B:qQ p at_ s) (t8:s.tm 8 = .o (iv .i64 0)) (m55:s.mem 55=some (xP 80))
 (h : ∀ s',qQ p at_ s'->s'.mem=aP s.mem 55 (some (cw .i64 (bP ((p.drop at_).take 64) 16)++xP 64))->Q (.e 6) s'):pD Kf k cF.l4 n s Q:=by
 refine iO (fun i s'=>qQ p at_ s'/\s'.tm 8 = .o (iv .i64 (i:Int))/\s'.mem=aP s.mem 55 (some (cw .i64 (bP ((p.drop at_).take 64) i)++xP (80-i)))) 16 ?_ ?_ n s hn ?_
 ·rintro i s' hi ⟨B',t8',mm⟩
  obtain ⟨b3,b6,b7,b2,b5,b47⟩:=B'
  have h1:(i:Int)<16:=by omega
  have w1:IntKind.i64.wrap ((i:Int)+1)=(i:Int)+1:=aD (by omega) (by omega)
  have hl:=Cd ((p.drop at_).take 64) i
  obtain ⟨Z,hZ⟩ : ∃ Z,Z=xP (79-i):=⟨_,rfl⟩
  have hz:xP (80-i) = .v (.int .i64 0)::Z:=by
   have:80-i=(79-i)+1:=by omega
   rw [this,hZ];rfl
  have hZl:Z.length=79-i:=by rw [hZ];simp
  rw [hz] at mm
  have hz2:80-(i+1)=79-i:=by omega
  simp only [cF.l4,fL,fC,fJ,fG]
  simp [t8',h1]
  refine aHI p at_ i k (cw .i64 (bP ((p.drop at_).take 64) i)) Z hat hp hi (by rw [qY,hl]) hZl _ hk _ ⟨by simp [b3],by simp [b6],by simp [b7],by simp [b2],by simp [b5],by simp [b47]⟩ (by simp [t8']) (by simp) (by simp [mm]) ?_ k
  rintro s2 ⟨c3,c6,c7,c2,c5,c47⟩ u8 um
  have hx:lS ((p.drop at_).take 64) (bP ((p.drop at_).take 64) i) i=vJ ((p.drop at_).take 64) i:=by simp only [lS,hi,if_true]
  simp [u8,w1]
  refine ⟨⟨by simp [c3],by simp [c6],by simp [c7],by simp [c2],by simp [c5],by simp [c47]⟩,?_⟩
  rw [um]
  show aP s'.mem 55 _=_
  rw [mm,H8,Q4,Lo,hx,← hZ]
  simp [cw]
 ·rintro s' ⟨B',t8',mm⟩
  obtain ⟨b3,b6,b7,b2,b5,b47⟩:=B'
  simp [cF.l4,t8']
  exact h _ ⟨by simp [b3],by simp [b6],by simp [b7],by simp [b2],by simp [b5],by simp [b47]⟩ mm
 ·refine ⟨B,t8,?_⟩
  funext m
  by_cases hm:m=55
  ·subst hm;simp [m55,aDq,cw]
  ·simp [hm]
theorem aHf (p:List UInt8) (at_ k n:Nat) (b:List UInt8) (Q:AX->St->Prop) (hn:64<n) (s:St) (B:qQ p at_ s) (t10:s.tm 10 = .o (iv .i64 16)) (m55:s.mem 55=some (cw .i64 (bP b 16)++xP 64))
 (h : ∀ s',qQ p at_ s'->s'.mem=aP s.mem 55 (some (cw .i64 (bP b 80)))->Q (.e 10) s'):pD Kf k cF.l5 n s Q:=by
 refine iO (fun j s'=>qQ p at_ s'/\s'.tm 10 = .o (iv .i64 ((16+j:Nat):Int))/\s'.mem=aP s.mem 55 (some (cw .i64 (bP b (16+j))++xP (64-j)))) 64 ?_ ?_ n s hn ?_
 ·rintro j s' hj ⟨B',t10',mm⟩
  obtain ⟨b3,b6,b7,b2,b5,b47⟩:=B'
  obtain ⟨Z,hZ⟩ : ∃ Z,Z=xP (63-j):=⟨_,rfl⟩
  have hz:xP (64-j) = .v (.int .i64 0)::Z:=by
   have:64-j=(63-j)+1:=by omega
   rw [this,hZ];rfl
  have hZl:Z.length=63-j:=by rw [hZ];simp
  have hz2:64-(j+1)=63-j:=by omega
  rw [hz] at mm
  obtain ⟨i,hi⟩ : ∃ i,i=16+j:=⟨_,rfl⟩
  have hi1:16+(j+1)=i+1:=by omega
  rw [hi1]
  rw [← hi] at t10' mm
  have hi2:i<80:=by omega
  have h1:(i:Int)<80:=by omega
  have w1:IntKind.i64.wrap ((i:Int)+1)=((i+1:Nat):Int):=by rw [aD (by omega) (by omega)];omega
  have hl:=Cd b i
  have hc : ¬ i<16:=by omega
  have j0:((i-3:Nat):Int)<80:=by omega
  have j1:((i-8:Nat):Int)<80:=by omega
  have j2:((i-14:Nat):Int)<80:=by omega
  have j3:((i-16:Nat):Int)<80:=by omega
  have k0:i-3+1<=i+(63-j+1):=by omega
  have k1:i-8+1<=i+(63-j+1):=by omega
  have k2:i-14+1<=i+(63-j+1):=by omega
  have k3:i-16+1<=i+(63-j+1):=by omega
  have e0:IntKind.i64.wrap ((i:Int)-3)=((i-3:Nat):Int):=by rw [aD (by omega) (by omega)];omega
  have e1:IntKind.i64.wrap ((i:Int)-8)=((i-8:Nat):Int):=by rw [aD (by omega) (by omega)];omega
  have e2:IntKind.i64.wrap ((i:Int)-14)=((i-14:Nat):Int):=by rw [aD (by omega) (by omega)];omega
  have e3:IntKind.i64.wrap ((i:Int)-16)=((i-16:Nat):Int):=by rw [aD (by omega) (by omega)];omega
  have g0:=rN .i64 (bP b i) (.v (.int .i64 0)::Z) (i:=i-3) (by omega)
  have g1:=rN .i64 (bP b i) (.v (.int .i64 0)::Z) (i:=i-8) (by omega)
  have g2:=rN .i64 (bP b i) (.v (.int .i64 0)::Z) (i:=i-14) (by omega)
  have g3:=rN .i64 (bP b i) (.v (.int .i64 0)::Z) (i:=i-16) (by omega)
  have l0:=rV b i (i-3)
  have l1:=rV b i (i-8)
  have l2:=rV b i (i-14)
  have l3:=rV b i (i-16)
  have x0:=qC (k:= .i64) (.inr rfl) l0 l1
  have x1:=qC (k:= .i64) (.inr rfl) (gQ l0 l1) l2
  have x2:=qC (k:= .i64) (.inr rfl) (gQ (gQ l0 l1) l2) l3
  have xl:=gQ (gQ (gQ l0 l1) l2) l3
  have hx:lS b (bP b i) i=jB ((bP b i).getD (i-3) 0 ^^^ (bP b i).getD (i-8) 0 ^^^ (bP b i).getD (i-14) 0 ^^^ (bP b i).getD (i-16) 0) 1:=by simp only [lS,hc,if_false]
  have hcw:cw .i64 (bP b (i+1))=cw .i64 (bP b i) ++ [.v (.int .i64 ((lS b (bP b i) i:Nat):Int))]:=by simp only [Q4,Lo];rfl
  have hs:=Wv (k:= .i64) (a:= .v (.int .i64 0)) (v:= .v (.int .i64 ((lS b (bP b i) i:Nat):Int))) (Z:=Z) hl
  have m55':s'.mem 55=some (cw .i64 (bP b i) ++ .v (.int .i64 0)::Z):=by rw [mm];simp
  simp [-List.getD_eq_getElem?_getD,-Int.natCast_add,-Int.natCast_mul,cF.l5,b2,b3,b5,b6,b7,t10',m55',h1,w1,e0,e1,e2,e3,qY,hl,hZl,g0,g1,g2,g3,x0,x1,x2,xl,j0,j1,j2,j3,k0,k1,k2,k3]
  refine ⟨⟨Int.ofNat_lt.2 xl,.inl rfl⟩,⟨by simp [b3],by simp [b6],by simp [b7],by simp [b2],by simp [b5],by simp [b47]⟩,?_⟩
  rw [aAQ hl,mm,H8,hcw,← hZ,hx]
  simp
 ·rintro s' ⟨B',t10',mm⟩
  obtain ⟨b3,b6,b7,b2,b5,b47⟩:=B'
  simp [cF.l5,t10']
  refine h _ ⟨by simp [b3],by simp [b6],by simp [b7],by simp [b2],by simp [b5],by simp [b47]⟩ ?_
  simpa using mm
 ·refine ⟨B,by simpa using t10,?_⟩
  funext m
  by_cases hm:m=55
  ·subst hm;simp [m55]
  ·simp [hm]
structure Sk (h:H5) (s:St):Prop where
 a:s.tm 11 = .o (iv .i64 (h.a:Int))
 b:s.tm 12 = .o (iv .i64 (h.b:Int))
 c:s.tm 13 = .o (iv .i64 (h.c:Int))
 d:s.tm 14 = .o (iv .i64 (h.d:Int))
 e:s.tm 15 = .o (iv .i64 (h.e:Int))
theorem aPh {a b c d e:Nat} (ha:a<4294967296) (hb:b<4294967296) (hc:c<4294967296) (hd:d<4294967296) (he:e<4294967296) :
 IntKind.i64.wrap (IntKind.i64.wrap (IntKind.i64.wrap (IntKind.i64.wrap ((a:Int)+b)+c)+d)+e)=((a+b+c+d+e:Nat):Int):=by
 simp only [IntKind.wrap_i64];omega
theorem aG7 {y:Nat} : ((y:Nat):Int).tmod 4294967296=((y%4294967296:Nat):Int):=by
 rw [Int.tmod_eq_emod_of_nonneg (by omega)];omega
theorem aML (p:List UInt8) (at_ k n:Nat) (W:List Nat) (h0:H5) (ho:h0.ok) (hW:W.length=80) (hlt : ∀ i,W.getD i 0<4294967296) (Q:AX->St->Prop) (hn:80<n) (s:St) (B:qQ p at_ s) (F:Sk h0 s) (t16:s.tm 16 = .o (iv .i64 0)) (m55:s.mem 55=some (cw .i64 W))
 (h : ∀ s',qQ p at_ s'->Sk (lA W h0 80) s'->s'.mem=s.mem->Q (.e 12) s'):pD Kf k cF.l6 n s Q:=by
 refine iO (fun i s'=>qQ p at_ s'/\Sk (lA W h0 i) s'/\s'.tm 16 = .o (iv .i64 (i:Int))/\s'.mem=s.mem) 80 ?_ ?_ n s hn ?_
 ·rintro i s' hi ⟨B',F',t16',mm⟩
  obtain ⟨b3,b6,b7,b2,b5,b47⟩:=B'
  obtain ⟨xa,xb,xc,xd,xe⟩:(lA W h0 i).ok:=Mj ho i
  have hx:=l9 W h0 i
  have gw:=rN .i64 W [] (i:=i) (by omega)
  rw [List.append_nil] at gw
  have lw:=hlt i
  have h1:(i:Int)<80:=by omega
  have w1:IntKind.i64.wrap ((i:Int)+1)=(i:Int)+1:=aD (by omega) (by omega)
  rw [hx]
  clear hx
  generalize lA W h0 i=x at *
  generalize W.getD i 0=w at *
  obtain ⟨f1,f2,f3,f4,f5⟩:=F'
  have r5:=Dr xa (.inr (.inl rfl))
  have r30:=Dr xb (.inr (.inr rfl))
  have lf:=Zc (t:=i) xb xc xd
  have lk:=H7 i
  have sm:=aPh r5 lf xe lk lw
  have md:= @aG7 (jB x.a 5+fN i x.b x.c x.d+x.e+kN i+w)
  have m55':s'.mem 55=some (cw .i64 W):=by rw [mm,m55]
  have hu:IntKind.i64 = .u32∨IntKind.i64 = .i64:= .inr rfl
  have cl:=qY .i64 W
  have hi1:i+1<=80:=by omega
  have o5:Lt 5:= .inr (.inl rfl)
  have o30:Lt 30:= .inr (.inr rfl)
  have za:=Int.ofNat_lt.2 xa
  have zb:=Int.ofNat_lt.2 xb
  have hstp:Jy x i w=⟨(jB x.a 5+fN i x.b x.c x.d+x.e+kN i+w)%4294967296,x.a,jB x.b 30,x.c,x.d⟩:=rfl
  rw [hstp]
  clear hstp
  generalize hS:jB x.a 5+fN i x.b x.c x.d+x.e+kN i+w=S at sm md ⊢
  by_cases c1:i<20
  ·have c1':(i:Int)<20:=by omega
   have hf:fN i x.b x.c x.d=(x.b &&& x.c)+((4294967295-x.b) &&& x.d):=by simp only [fN,c1,if_true]
   have hk':((kN i:Nat):Int)=1518500249:=by simp only [kN,c1,if_true];rfl
   have a1:=uM hu xb xc
   have a2:IntKind.i64.wrap (4294967295-(x.b:Int))=((4294967295-x.b:Nat):Int):=by rw [aD (by omega) (by omega)];omega
   have a3:=uM hu (a:=4294967295-x.b) (b:=x.d) (by omega) xd
   have a4:IntKind.i64.wrap (((x.b &&& x.c:Nat):Int)+(((4294967295-x.b) &&& x.d:Nat):Int))=((fN i x.b x.c x.d:Nat):Int):=by
    rw [aD (by omega) (by rw [hf] at lf;omega),hf];omega
   rw [hk'] at sm
   simp [-List.getD_eq_getElem?_getD,-Int.natCast_add,-Int.natCast_emod,cF.l6,b7,t16',m55',h1,w1,f1,f2,f3,f4,f5,cl,hW,hi1,gw,xa,xb,o5,o30,za,zb,c1',a1,a2,a3,a4]
   refine ⟨za,zb,⟨by simp [b3],by simp [b6],by simp [b7],by simp [b2],by simp [b5],by simp [b47]⟩,⟨?_,by simp [f1],by simp,by simp [f3],by simp [f4]⟩,?_⟩
   ·simp [-Int.natCast_add,-Int.natCast_emod]
    rw [sm,md]
   ·exact ⟨by omega,mm⟩
  ·have c1' : ¬ (i:Int)<20:=by omega
   by_cases c2:i<40
   ·have c2':(i:Int)<40:=by omega
    have hf:fN i x.b x.c x.d=x.b ^^^ x.c ^^^ x.d:=by simp only [fN,c1,c2,if_true,if_false]
    have hk':((kN i:Nat):Int)=1859775393:=by simp only [kN,c1,c2,if_true,if_false];rfl
    have a1:=qC hu xb xc
    have a2:=qC hu (gQ xb xc) xd
    rw [← hf] at a2
    rw [hk'] at sm
    simp [-List.getD_eq_getElem?_getD,-Int.natCast_add,-Int.natCast_emod,cF.l6,b7,t16',m55',h1,w1,f1,f2,f3,f4,f5,cl,hW,hi1,gw,xa,xb,o5,o30,za,zb,c1',c2',a1,a2]
    refine ⟨za,zb,⟨by simp [b3],by simp [b6],by simp [b7],by simp [b2],by simp [b5],by simp [b47]⟩,⟨?_,by simp [f1],by simp,by simp [f3],by simp [f4]⟩,?_⟩
    ·simp [-Int.natCast_add,-Int.natCast_emod]
     rw [sm,md]
    ·exact ⟨by omega,mm⟩
   ·have c2' : ¬ (i:Int)<40:=by omega
    by_cases c3:i<60
    ·have c3':(i:Int)<60:=by omega
     have hf:fN i x.b x.c x.d=x.b &&& x.c ||| x.b &&& x.d ||| x.c &&& x.d:=by simp only [fN,c1,c2,c3,if_true,if_false]
     have hk':((kN i:Nat):Int)=2400959708:=by simp only [kN,c1,c2,c3,if_true,if_false];rfl
     have a1:=uM hu xb xc
     have a2:=uM hu xb xd
     have a3:=uM hu xc xd
     have a4:=wH hu (kV xb (b:=x.c)) (kV xb (b:=x.d))
     have a5:=wH hu (zZ (kV xb (b:=x.c)) (kV xb (b:=x.d))) (kV xc (b:=x.d))
     rw [← hf] at a5
     rw [hk'] at sm
     simp [-List.getD_eq_getElem?_getD,-Int.natCast_add,-Int.natCast_emod,cF.l6,b7,t16',m55',h1,w1,f1,f2,f3,f4,f5,cl,hW,hi1,gw,xa,xb,o5,o30,za,zb,c1',c2',c3',a1,a2,a3,a4,a5]
     refine ⟨za,zb,⟨by simp [b3],by simp [b6],by simp [b7],by simp [b2],by simp [b5],by simp [b47]⟩,⟨?_,by simp [f1],by simp,by simp [f3],by simp [f4]⟩,?_⟩
     ·simp [-Int.natCast_add,-Int.natCast_emod]
      rw [sm,md]
     ·exact ⟨by omega,mm⟩
    ·have c3' : ¬ (i:Int)<60:=by omega
     have hf:fN i x.b x.c x.d=x.b ^^^ x.c ^^^ x.d:=by simp only [fN,c1,c2,c3,if_true,if_false]
     have hk':((kN i:Nat):Int)=3395469782:=by simp only [kN,c1,c2,c3,if_true,if_false];rfl
     have a1:=qC hu xb xc
     have a2:=qC hu (gQ xb xc) xd
     rw [← hf] at a2
     rw [hk'] at sm
     simp [-List.getD_eq_getElem?_getD,-Int.natCast_add,-Int.natCast_emod,cF.l6,b7,t16',m55',h1,w1,f1,f2,f3,f4,f5,cl,hW,hi1,gw,xa,xb,o5,o30,za,zb,c1',c2',c3',a1,a2]
     refine ⟨za,zb,⟨by simp [b3],by simp [b6],by simp [b7],by simp [b2],by simp [b5],by simp [b47]⟩,⟨?_,by simp [f1],by simp,by simp [f3],by simp [f4]⟩,?_⟩
     ·simp [-Int.natCast_add,-Int.natCast_emod]
      rw [sm,md]
     ·exact ⟨by omega,mm⟩
 ·rintro s' ⟨B',F',t16',mm⟩
  obtain ⟨b3,b6,b7,b2,b5,b47⟩:=B'
  obtain ⟨f1,f2,f3,f4,f5⟩:=F'
  simp [cF.l6,t16']
  exact h _ ⟨by simp [b3],by simp [b6],by simp [b7],by simp [b2],by simp [b5],by simp [b47]⟩ ⟨by simp [f1],by simp [f2],by simp [f3],by simp [f4],by simp [f5]⟩ mm
 ·exact ⟨B,by rw [o3];exact F,t16,rfl⟩
structure LB (p:List UInt8) (at_:Nat) (h:H5) (s:St):Prop where
 t2:s.tm 2 = .o (.c (.p 2 0))
 t3:s.tm 3 = .o (.c (.s ⟨5,1,some .u8⟩ 47 p.length))
 t5:s.tm 5 = .o (.c (.p 5 0))
 t6:s.tm 6 = .o (iv .i64 (at_:Int))
 dY:s.mem 47=some (cb p)
 m5:s.mem 5=some (h.cells .i64)
 m2:s.mem 2=some [.v (.int .i64 0),.v (.int .i64 0),.v (.int .i64 0),.v (.int .i64 0),.v (.int .i64 0)]
theorem Kr {a b:Nat} (ha:a<4294967296) (hb:b<4294967296):(IntKind.i64.wrap ((a:Int)+(b:Int))).tmod 4294967296=(((a+b)%4294967296:Nat):Int):=by
 rw [aD (by omega) (by omega),Int.tmod_eq_emod_of_nonneg (by omega)]
 omega
theorem aSj (k:IntKind) (ns:List Nat) (h:H5):(h.cells k).map (fun x=>AC.kill ns x)=h.cells k:=by simp [H5.cells,AC.kill]
theorem aG6 (p:List UInt8) (k n at0:Nat) (hp:p.length<=2000000) (hm:p.length%64=0) (H:H5) (R:H5) (ho:H.ok) (hR:R=sF comp (p.length/64) p H) (Q:AX->St->Prop) (hk:80<k) (hn:p.length/64<n) (s:St) (B:LB p 0 H s)
 (h : ∀ s',LB p p.length R s'->Q (.e 4) s'):pD Kf k cF.l7 n s Q:=by
 refine lL (fun m s'=> ∃ at_ x,at_+64*m=p.length/\x.ok/\R=sF comp m (p.drop at_) x/\LB p at_ x s') ?_ n (p.length/64) s hn ?_
 ·rintro m s' ⟨at_,x,ha,hx,hr,b2,b3,b5,b6,b47,b5m,b2m⟩
  rcases m with _ | m
  ·have e:at_=p.length:=by omega
   subst e
   rw [Vx] at hr
   subst hr
   simp [cF.l7,b2,b3,b5,b6]
   exact h _ ⟨by simp [b2],by simp [b3],by simp [b5],by simp [b6],by simp [b47,nM],by simp [b5m,aSj],by simp [b2m]⟩
  ·rw [Vp] at hr
   have h1:(at_:Int)<(p.length:Int):=by omega
   simp only [cF.l7,M7,fL,fC,fJ,fG]
   simp [b2,b3,b5,b6,h1]
   refine aHe p at_ k k (by omega) hp _ (by omega) (by omega) _ ⟨by simp [b3],by simp [b6],by simp [b6],by simp [b2],by simp [b5],by simp [b47,nM]⟩ (by simp) (by simp;rfl) ?_
   rintro s2 B2 m2
   have B2':=B2
   obtain ⟨c3,c6,c7,c2,c5,c47⟩:=B2
   simp
   refine aHf p at_ k k _ _ (by omega) _ ⟨by simp [c3],by simp [c6],by simp [c7],by simp [c2],by simp [c5],by simp [c47]⟩ (by simp) (by simp [m2];rfl) ?_
   rintro s3 B3 m3
   obtain ⟨d3,d6,d7,d2,d5,d47⟩:=B3
   have e5:s3.mem 5=some (x.cells .i64):=by rw [m3];simp [m2,b5m,aSj]
   have e2:s3.mem 2=some [.v (.int .i64 0),.v (.int .i64 0),.v (.int .i64 0),.v (.int .i64 0),.v (.int .i64 0)]:=by rw [m3];simp [m2,b2m]
   have e55:s3.mem 55=some (cw .i64 (bP ((p.drop at_).take 64) 80)):=by rw [m3];simp
   have hlt:=rV ((p.drop at_).take 64) 80
   have hlen:=Cd ((p.drop at_).take 64) 80
   have hcomp:=Xa ((p.drop at_).take 64) x
   have hok:=Xi ((p.drop at_).take 64) x
   generalize bP ((p.drop at_).take 64) 80=W at *
   simp [d5,e5,H5.cells]
   refine aML p at_ k k W x hx hlen hlt _ hk _ ⟨by simp [d3],by simp [d6],by simp [d7],by simp [d2],by simp [d5],by simp [d47]⟩ ⟨by simp,by simp,by simp,by simp,by simp⟩ (by simp) (by simp [e55]) ?_
   rintro s4 ⟨f3,f6,f7,f2,f5,f47⟩ ⟨g1,g2,g3,g4,g5⟩ m4
   have m4:s4.mem=s3.mem:=m4
   have i5:s4.mem 5=some (x.cells .i64):=by rw [m4];exact e5
   have i2:s4.mem 2=some [.v (.int .i64 0),.v (.int .i64 0),.v (.int .i64 0),.v (.int .i64 0),.v (.int .i64 0)]:=by rw [m4];exact e2
   obtain ⟨x1,x2,x3,x4,x5⟩:=hx
   obtain ⟨y1,y2,y3,y4,y5⟩:=Mj (ws:=W) ⟨x1,x2,x3,x4,x5⟩ 80
   generalize lA W x 80=y at *
   rw [H5.cells] at i5
   have w1:IntKind.i64.wrap ((at_:Int)+64)=((at_+64:Nat):Int):=by rw [aD (by omega) (by omega)];omega
   have q1:=Kr x1 y1
   have q2:=Kr x2 y2
   have q3:=Kr x3 y3
   have q4:=Kr x4 y4
   have q5:=Kr x5 y5
   simp [-Int.natCast_add,-Int.natCast_emod,f2,f3,f5,f6,i5,g1,g2,g3,g4,g5,q1,q2,q3,q4,q5,w1]
   refine ⟨m,by omega,at_+64,by omega,comp ((p.drop at_).take 64) x,hok,by rw [hr,List.drop_drop],by simp [f2],by simp [f3],by simp [f5],by simp,by simp [f47],?_,by simp [i2]⟩
   simp [hcomp,Ju,H5.cells]
 ·exact ⟨0,H,by omega,ho,by simpa using hR,B⟩
abbrev aH1:=s1 jJ (fun b=>b.length<=1000000) fun b=> .o (.g ((oT b).cells .i64))
theorem aLG:Ok Tryz.prog 51 aH1:=cA (aG Tryz.func51 cF.ent cF.aA (aB aP4 aH)) (by simp [cF.c]) fun b _ hb=>by
 refine ⟨(pad b).length+100,?_⟩
 have hz:=Vn b.length
 have hpl:=Xf b
 have hpm:=Xu b
 have hb1:b.length<=1000000000000:=by omega
 have hb2:b.length<=999999999999:=by omega
 obtain ⟨K,hK⟩ : ∃ K,(pad b).length+100=K:=⟨_,rfl⟩
 rw [hK]
 simp only [cF.c,fL,fC,fJ,fG]
 simp [-AC.known,k9,kO,yG,hb1,hb2,Zw,Y8,mX,nM,F9,oN]
 have hpz : ∀ i:Nat,i<=lK b.length->((b.length:Int)+1+(i:Int))%64=56->i=lK b.length:=by
  intro i hi h
  unfold lK at hi hz ⊢
  omega
 have hpz2:((b.length:Int)+1+(lK b.length:Int))%64=56:=by unfold lK;omega
 refine iO (fun i s=>s.tm 0 = .o (.c (.r .u8 (nb b)))/\s.tm 2 = .o (.c (.p 2 0))/\s.mem 2=some [.v (.int .i64 0),.v (.int .i64 0),.v (.int .i64 0),.v (.int .i64 0),.v (.int .i64 0)]/\s.mem 5=none/\s.mem 31=none/\s.mem 46=none/\s.mem 47=none /\ ∃ q acc,(q=32∨(q=25/\s.mem 32=none))/\acc=b++128::List.replicate i 0/\acc.length=b.length+1+i/\s.tm 3 = .o (.c (.s ⟨5,1,some .u8⟩ q acc.length))/\s.mem q=some (cb acc)) (lK b.length) ?_ ?_ K _ (by omega) ?_
 ·rintro i s hi ⟨t0,t2,m2,m5,m31,m46,dY,q,acc,hq,he,hl,t3,mq⟩
  have e1:(acc.length:Int).tmod 64=(acc.length:Int)%64:=Int.tmod_eq_emod_of_nonneg (by omega)
  have e2 : ¬ (acc.length:Int)%64=56:=by
   rw [hl]
   intro h
   have:=hpz i (by omega) (by push_cast at h;exact h)
   omega
  have e3:acc.length<=999999999999:=by omega
  have e4:acc ++ [0]=b++128::List.replicate (i+1) 0:=by rw [he,List.replicate_succ'];simp
  have e5:cb acc ++ [.v (.int .u8 0)]=cb (acc ++ [0]):=Pr acc 0
  rcases hq with rfl | ⟨rfl,m32⟩
  ·simp [-AC.known,cF.l1,t0,t2,m2,m5,t3,m31,m46,dY,mq,e1,e2,e3,kO,oN,nM,mX,e5]
   exact ⟨by omega,by omega,by rw [e4]⟩
  ·simp [-AC.known,cF.l1,t0,t2,m2,m5,t3,m31,m32,m46,dY,mq,e1,e2,e3,kO,oN,nM,mX,e5]
   exact ⟨by omega,by omega,by rw [e4]⟩
 ·rintro s ⟨t0,t2,m2,m5,m31,m46,dY,q,acc,hq,he,hl,t3,mq⟩
  have e1:(acc.length:Int).tmod 64=(acc.length:Int)%64:=Int.tmod_eq_emod_of_nonneg (by omega)
  have e2:(acc.length:Int)%64=56:=by rw [hl];push_cast;exact hpz2
  simp [-AC.known,cF.l1,t0,t2,t3,m2,m5,m31,m46,dY,mq,e1,e2,yG]
  obtain ⟨v,hv0⟩ : ∃ v,v=b.length*8:=⟨_,rfl⟩
  have w2:IntKind.i64.wrap ((b.length:Int)*8)=(v:Int):=by rw [aD (by omega) (by omega)];omega
  have hv:v<0x10000000000000000:=by omega
  have hpad:pad b=acc++mW v 8:=by rw [he,hv0];simp [pad]
  refine iO (fun j s=>s.tm 0 = .o (.c (.r .u8 (nb b)))/\s.tm 2 = .o (.c (.p 2 0))/\s.mem 2=some [.v (.int .i64 0),.v (.int .i64 0),.v (.int .i64 0),.v (.int .i64 0),.v (.int .i64 0)]/\s.mem 5=none/\s.tm 4 = .o (iv .i64 (7-(j:Int)))/\s.mem 46=none /\ ∃ q bc,((q=47/\0<j)∨(j=0/\(q=32∨q=25)/\s.mem 47=none))/\bc=acc++mW v j/\bc.length=acc.length+j/\s.tm 3 = .o (.c (.s ⟨5,1,some .u8⟩ q bc.length))/\s.mem q=some (cb bc)) 8 ?_ ?_ K _ (by omega) ?_
  ·rintro j s hj ⟨t0,t2,m2,m5,t4,m46,q,bc,hq,hbc,hlb,t3,mq⟩
   have f0:IntKind.i64.wrap (8*(7-(j:Int)))=56-8*(j:Int):=by rw [aD (by omega) (by omega)];omega
   have f1:IntKind.u64.wrap (56-8*(j:Int))=56-8*(j:Int):=rK (by omega) (by omega)
   have g0:0<=56-8*(j:Int):=by omega
   have g1:(56-8*(j:Int)).toNat=56-8*j:=by omega
   have g2:min (56-8*j) IntKind.i64.bits=56-8*j:=Nat.min_eq_left (show 56-8*j<=64 by omega)
   have g3:(v:Int).fdiv (2 ^ (56-8*j))=((v/2 ^ (56-8*j):Nat):Int):=by
    rw [Int.fdiv_eq_ediv_of_nonneg _ (Int.pow_nonneg (by decide)),Int.natCast_ediv,Int.natCast_pow];rfl
   have g4:IntKind.u8.wrap ((v/2 ^ (56-8*j):Nat):Int)=(((UInt8.ofNat (v/2 ^ (56-8*j)%256)).toNat:Nat):Int):=by
    generalize v/2 ^ (56-8*j)=y
    rw [UInt8.toNat_ofNat',IntKind.wrap_u8]
    omega
   have g5:IntKind.i64.wrap (7-(j:Int)-1)=7-((j:Int)+1):=by rw [aD (by omega) (by omega)];omega
   have g6:bc.length<=999999999999:=by omega
   have g7:8*(j:Int)<=56:=by omega
   have g8:(j:Int)<=7:=by omega
   have hb8:=aA3 v j
   generalize UInt8.ofNat (v/2 ^ (56-8*j)%256)=y at *
   have e5:=Pr bc y
   have e6:acc++mW v (j+1)=bc ++ [y]:=by rw [hb8,hbc];simp
   rcases hq with ⟨rfl,hj0⟩ | ⟨rfl,rfl | rfl,dY⟩
   ·simp [-AC.known,cF.l2,t0,t2,m2,m5,t3,t4,m46,mq,yG,w2,f0,f1,g0,g1,g2,g3,g4,g5,g6,g7,g8,kO,oN,nM,mX,e5,e6]
    refine ⟨by omega,?_⟩
    rw [show min (56-8*j) 64=56-8*j by omega,g3,g4]
    exact e5
   ·simp [-AC.known,cF.l2,t0,t2,m2,m5,t3,t4,m46,dY,mq,yG,w2,f0,f1,g0,g1,g2,g3,g4,g5,g6,g7,g8,kO,oN,nM,mX,e5,e6]
    have z1:IntKind.u64.wrap (IntKind.i64.wrap 56)=56:=by decide
    have z2:IntKind.i64.wrap 6=6:=by decide
    have z3:min (56:Int).toNat 64=56:=by decide
    refine ⟨by rw [z1];decide,z2,by simpa using hlb,?_⟩
    rw [z1,z3]
    simp only [Nat.mul_zero,Nat.sub_zero] at g3 g4
    rw [g3,g4]
    exact e5
   ·simp [-AC.known,cF.l2,t0,t2,m2,m5,t3,t4,m46,dY,mq,yG,w2,f0,f1,g0,g1,g2,g3,g4,g5,g6,g7,g8,kO,oN,nM,mX,e5,e6]
    have z1:IntKind.u64.wrap (IntKind.i64.wrap 56)=56:=by decide
    have z2:IntKind.i64.wrap 6=6:=by decide
    have z3:min (56:Int).toNat 64=56:=by decide
    refine ⟨by rw [z1];decide,z2,by simpa using hlb,?_⟩
    rw [z1,z3]
    simp only [Nat.mul_zero,Nat.sub_zero] at g3 g4
    rw [g3,g4]
    exact e5
  ·rintro s ⟨t0,t2,m2,m5,t4,m46,q,bc,hq,hbc,hlb,t3,mq⟩
   have e:bc=pad b:=by rw [hpad,hbc]
   subst e
   rcases hq with ⟨rfl,-⟩ | ⟨h,-⟩
   ·simp [cF.l2,t2,t3,t4,m2,m5,mq]
    have hK2:80<K:=by omega
    have hK3:(pad b).length/64<K:=by omega
    have hsh:oT b=sF comp ((pad b).length/64) (pad b) h0:=rfl
    generalize pad b=p at *
    refine aG6 p K K 0 (by omega) hpm h0 (oT b) Rk hsh _ hK2 hK3 _ ⟨by simp [t2],by simp [t3],by simp,by simp,by simp [mq],by simp [h0,H5.cells],by simp [m2]⟩ ?_
    rintro s2 ⟨b2,b3,b5,b6,b47,b5m,b2m⟩
    rw [H5.cells] at b5m ⊢
    simp [b2,b5,b5m,b2m]
   ·exact absurd h (by decide)
  ·rcases hq with rfl | ⟨rfl,m32⟩<;>simp [t0,t2,t3,m2,m5,m46,dY,mq,mW]
 ·simp [cb,kO]
end Go.Proofs.YtfcbohachbeamaaGreatDoor.E
end
section
namespace Go.VC
abbrev En:=Int×Int
abbrev bD (x:Int):Prop:= -0x8000000000000000<=x/\x<0x8000000000000000
def qE:List En->List QC
 | []=> []
 | e::r=> .v (.int .i64 e.1) :: .v (.int .i64 e.2)::qE r
def pE:List En->Prop
 | []=>True
 | e::r=>bD e.1/\bD e.2/\pE r
def vQ:List QC->Bool
 | []=>true
 | .v (.int .i64 a) :: .v (.int .i64 b)::r=>decide (bD a)&&decide (bD b)&&vQ r
 | _=>false
def tQ:List QC->List En
 | .v (.int .i64 a) :: .v (.int .i64 b)::r=>(a,b)::tQ r
 | _=> []
theorem Dd : ∀ (l:List En),tQ (qE l)=l
 | []=>rfl
 | e::r=>by simp [qE,tQ,Dd r]
theorem Iy : ∀ (l:List En),(vQ (qE l)=true)=pE l
 | []=>by simp [qE,vQ,pE]
 | e::r=>by simp [qE,vQ,pE,Iy r,and_assoc]
theorem Qk : ∀ {cs:List QC},vQ cs=true->cs=qE (tQ cs)/\pE (tQ cs)
 | [],_=>⟨rfl,trivial⟩
 | .v (.int .i64 a) :: .v (.int .i64 b)::r,h=>by
  simp only [vQ,Bool.and_eq_true,decide_eq_true_eq] at h
  obtain ⟨h1,h2⟩:=Qk h.2
  exact ⟨by simp only [tQ,qE];rw [← h1],h.1.1,h.1.2,h2⟩
def vE:AP->Bool
 | .c (.q m cs)=>decide (m=2)&&vQ cs
 | _=>false
def tE:AP->List En
 | .c (.q _ cs)=>tQ cs
 | _=> []
def Jz:Co (List En) where
 e l:= .c (.q 2 (qE l))
 p l:=pE l
 v a:=vE a=true
 dv a:=inferInstance
 t:=tE
 some {a} h:=by
  unfold vE at h
  split at h
  ·simp only [Bool.and_eq_true,decide_eq_true_eq] at h
   obtain ⟨rfl,h⟩:=h
   obtain ⟨h1,h2⟩:=Qk h
   exact ⟨by simp only [tE];rw [← h1],h2⟩
  ·cases h
 enc {x} h:=⟨by show (decide (2=2)&&vQ (qE x))=true;simp [Iy,h],Dd x⟩
theorem aRd {l:List En} : (vE (.c (.q 2 (qE l)))=true)=pE l:=by simp [vE,Iy]
theorem aGo {l:List En} : tE (.c (.q 2 (qE l)))=l:=Dd l
theorem Re {l:List En} : Jz.e l = .c (.q 2 (qE l)):=_root_.id rfl
theorem aMh {a:AP} : Jz.v a=(vE a=true):=_root_.id rfl
theorem aHL {a:AP} : Jz.t a=tE a:=_root_.id rfl
theorem aMv {l:List En} : Jz.p l=pE l:=_root_.id rfl
def Iq:AP->Bool
 | .g [.v (.int .i64 a),.v (.int .i64 b)]=>decide (bD a)&&decide (bD b)
 | _=>false
def Sj:AP->En
 | .g [.v (.int .i64 a),.v (.int .i64 b)]=>(a,b)
 | _=>(0,0)
def Lb:Co En where
 e x:= .g [.v (.int .i64 x.1),.v (.int .i64 x.2)]
 p x:=bD x.1/\bD x.2
 v a:=Iq a=true
 dv a:=inferInstance
 t:=Sj
 some {a} h:=by
  unfold Iq at h
  split at h
  ·simp only [Bool.and_eq_true,decide_eq_true_eq] at h
   exact ⟨rfl,h⟩
  ·cases h
 enc {x} h:=⟨by show (decide (bD x.1)&&decide (bD x.2))=true;simpa using h,rfl⟩
theorem aHJ {a b:Int} : (Iq (.g [.v (.int .i64 a),.v (.int .i64 b)])=true)=(bD a/\bD b):=by simp only [Iq,Bool.and_eq_true,decide_eq_true_eq]
theorem aOq {a b:Int} : Sj (.g [.v (.int .i64 a),.v (.int .i64 b)])=(a,b):=_root_.id rfl
theorem Uo {x:En} : Lb.e x = .g [.v (.int .i64 x.1),.v (.int .i64 x.2)]:=_root_.id rfl
theorem aHN {a:AP} : Lb.v a=(Iq a=true):=_root_.id rfl
theorem aKo {a:AP} : Lb.t a=Sj a:=_root_.id rfl
theorem Un {x:En} : Lb.p x=(bD x.1/\bD x.2):=_root_.id rfl
structure bC where
 u:Int
 x:Int
 es:List En
def Ft:AP->Bool
 | .g [.v (.int .i64 a),.v (.int .i64 b),.q m cs]=>decide (bD a)&&decide (bD b)&&decide (m=2)&&vQ cs
 | _=>false
def Hi:AP->bC
 | .g [.v (.int .i64 a),.v (.int .i64 b),.q _ cs]=>⟨a,b,tQ cs⟩
 | _=>⟨0,0,[]⟩
def bV:Co bC where
 e t:= .g [.v (.int .i64 t.u),.v (.int .i64 t.x),.q 2 (qE t.es)]
 p t:=bD t.u/\bD t.x/\pE t.es
 v a:=Ft a=true
 dv a:=inferInstance
 t:=Hi
 some {a} h:=by
  unfold Ft at h
  split at h
  ·simp only [Bool.and_eq_true,decide_eq_true_eq] at h
   obtain ⟨⟨⟨h1,h2⟩,rfl⟩,h⟩:=h
   obtain ⟨h3,h4⟩:=Qk h
   exact ⟨by simp only [Hi];rw [← h3],h1,h2,h4⟩
  ·cases h
 enc {t} h:=⟨by show (decide (bD t.u)&&decide (bD t.x)&&decide (2=2)&&vQ (qE t.es))=true;simp [Iy,h],by show bC.mk _ _ (tQ (qE t.es))=t;rw [Dd]⟩
theorem N9 {a b:Int} {l:List En} : (Ft (.g [.v (.int .i64 a),.v (.int .i64 b),.q 2 (qE l)])=true)=(bD a/\bD b/\pE l):=by simp [Ft,Iy,and_assoc]
theorem C5 {a b:Int} {l:List En} : Hi (.g [.v (.int .i64 a),.v (.int .i64 b),.q 2 (qE l)])=⟨a,b,l⟩:=by simp [Hi,Dd]
theorem aEK {t:bC} : bV.e t = .g [.v (.int .i64 t.u),.v (.int .i64 t.x),.q 2 (qE t.es)]:=_root_.id rfl
theorem aEe {a:AP} : bV.v a=(Ft a=true):=_root_.id rfl
theorem aL8 {a:AP} : bV.t a=Hi a:=_root_.id rfl
theorem aGe {t:bC} : bV.p t=(bD t.u/\bD t.x/\pE t.es):=_root_.id rfl
attribute [simp] aRd aGo Re aMh aHL aMv aHJ aOq Uo aHN aKo Un N9 C5 aEK aEe aL8 aGe
theorem iC : ∀ (l:List En),(qE l).length=l.length*2
 | []=>rfl
 | e::r=>by simp [qE,iC r];omega
theorem Ae (l:List En):(qE l).length/2=l.length:=by rw [iC];omega
theorem zR : ∀ (l:List En) (i:Nat),(qE l).drop (i*2)=qE (l.drop i)
 | l,0=>by simp
 | [],i+1=>by simp [qE]
 | e::r,i+1=>by
  have:(i+1)*2=i*2+1+1:=by omega
  rw [this]
  simp [qE,zR r i]
theorem Up : ∀ (l:List En) (i:Nat),(qE l).take (i*2)=qE (l.take i)
 | l,0=>by simp [qE]
 | [],i+1=>by simp [qE]
 | e::r,i+1=>by
  have:(i+1)*2=i*2+1+1:=by omega
  rw [this]
  simp [qE,Up r i]
theorem xT : ∀ (a b:List En),pE (a++b)=(pE a/\pE b)
 | [],b=>by simp [pE]
 | e::r,b=>by simp [pE,xT r b,and_assoc]
theorem Qn : ∀ (l:List En),l ≠ [] -> ∃ pre e,l=pre ++ [e]
 | [],h=>absurd rfl h
 | [e],_=>⟨[],e,rfl⟩
 | a::b::r,_=>by
  obtain ⟨pre,e,h⟩:=Qn (b::r) (by simp)
  exact ⟨a::pre,e,by rw [h];rfl⟩
end Go.VC
namespace Go.Proofs.YtfcbohachbeamaaGreatDoor.E
open Go.VC Go.RowKit
def zK (l:List En):En:=l.getLastD (0,0)
theorem zS (l:List En) (e:En):zK (l ++ [e])=e:=by simp [zK]
def cQ (l:List En) (e:En):Prop:=l.length<64/\(0<=e.1/\e.1<=1125899906842624)/\e.1%86400=0/\(0<=e.2/\e.2<=1000)/\(l = []∨(zK l).1<e.1/\(e.2=(zK l).2+1∨e.2=(zK l).2-1))
instance (l:List En) (e:En):Decidable (cQ l e):=inferInstanceAs (Decidable (_/\_/\_/\_/\(_∨_)))
abbrev aEt:=s2 bF bF eO fun x y=> .o (bv (decide (0<=x/\x<=y)))
theorem V9:Ok Tryz.prog 148 aEt:=eT (aG Tryz.func148 Ds.ent Ds.aA aH) (by simp [Ds.c]) fun x y hx hy _=>by
 refine ⟨0,?_⟩
 by_cases h1:0<=x<;>by_cases h2:x<=y<;>simp [Ds.c,h1,h2]
def tC (l:List En):Prop:=l.length<64->0<=(zK l).2/\(zK l).2<=1000
instance (l:List En):Decidable (tC l):=inferInstanceAs (Decidable (_->_))
abbrev Lm:=s2 Jz Lb (fun l _=>tC l/\l.length<=1000000000000) fun l e=> .o (bv (decide (cQ l e)))
theorem aAT {x:Int} (h:0<=x):x.tmod 86400=x%86400:=Int.tmod_eq_emod_of_nonneg h
theorem aAc:Ok Tryz.prog 114 Lm:=eT (aG Tryz.func114 kA.ent kA.aA (aB V9 aH)) (by simp [kA.c]) fun l e hl he hg=>by
 refine ⟨0,?_⟩
 obtain ⟨a,b⟩:=e
 simp only [Un] at he
 have q:=iC l
 have ql:=Ae l
 obtain ⟨⟨a1,a2⟩,b1,b2⟩:=he
 by_cases h1:l.length<64
 ·have h1' : ¬ (64:Int)<=(l.length:Int):=by omega
  have hlast:=hg.1 h1
  by_cases h2:0<=a
  ·by_cases h3:a<=1125899906842624
   ·have ht:=aAT h2
    by_cases h4:a%86400=0
    ·by_cases h5:0<=b
     ·by_cases h6:b<=1000
      ·by_cases h7:l = []
       ·subst h7
        simp [kA.c,qE,cQ,a1,a2,b1,b2,h2,h3,h4,h5,h6,ht]
       ·obtain ⟨pre,⟨c,d⟩,rfl⟩:=Qn l h7
        rw [zS] at hlast
        simp only at hlast
        have hn:pre.length+1<64:=by simpa using h1
        have w1:IntKind.i64.wrap (pre.length:Int)=(pre.length:Int):=aD (by omega) (by omega)
        have hd:(qE (pre ++ [(c,d)])).drop (pre.length*2) = [.v (.int .i64 c),.v (.int .i64 d)]:=by rw [zR];simp [qE]
        have q:(qE (pre ++ [(c,d)])).length=pre.length*2+2:=by rw [iC];simp;omega
        have q2:(pre.length*2+2)/2=pre.length+1:=by omega
        have e0 : ¬ ((pre.length:Int)+1=0):=by omega
        have e1 : ¬ (64:Int)<=(pre.length:Int)+1:=by omega
        obtain ⟨y,hy⟩ : ∃ y,y=b-d:=⟨_,rfl⟩
        have w2:IntKind.i64.wrap (b-d)=y:=by
         rw [hy]
         have:=hlast.1;have:=hlast.2
         exact aD (by omega) (by omega)
        have hE:cQ (pre ++ [(c,d)]) (a,b)=(c<a/\(y=1∨y = -1)):=by
         apply propext
         rw [hy]
         have f1:(b=d+1)=(b-d=1):=by apply propext;omega
         have f2:(b=d-1)=(b-d = -1):=by apply propext;omega
         simp [cQ,zS,hn,h2,h3,h4,h5,h6,f1,f2]
        simp only [hE,Re,Uo]
        clear hE hl hg
        generalize qE (pre ++ [(c,d)])=R at *
        clear hy
        by_cases h8:c<a
        ·by_cases h9:y=1
         ·simp [kA.c,q,q2,a1,a2,b1,b2,h2,h3,h4,h5,h6,ht,w1,w2,hd,e0,e1,h8,h9]
         ·by_cases h10:y = -1<;>simp [kA.c,q,q2,a1,a2,b1,b2,h2,h3,h4,h5,h6,ht,w1,w2,hd,e0,e1,h8,h9,h10]
        ·simp [kA.c,q,q2,a1,a2,b1,b2,h2,h3,h4,h5,h6,ht,w1,w2,hd,e0,e1,h8]
      ·simp [kA.c,ql,cQ,a1,a2,b1,b2,h1,h1',h2,h3,h4,h5,h6,ht]
     ·simp [kA.c,ql,cQ,a1,a2,b1,b2,h1,h1',h2,h3,h4,h5,ht]
    ·simp [kA.c,ql,cQ,a1,a2,b1,b2,h1,h1',h2,h3,h4,ht]
   ·simp [kA.c,ql,cQ,a1,a2,b1,b2,h1,h1',h2,h3]
  ·simp [kA.c,ql,cQ,a1,a2,b1,b2,h1,h1',h2]
 ·have h1':(64:Int)<=(l.length:Int):=by omega
  simp [kA.c,ql,cQ,a1,a2,b1,b2,h1,h1']
end Go.Proofs.YtfcbohachbeamaaGreatDoor.E
end
section
namespace Go.Proofs.YtfcbohachbeamaaGreatDoor.E
open Go.VC Go.RowKit
def dS:List En->List En->Option Nat
 | _,[]=>none
 | pre,e::r=>if cQ pre e then dS (pre ++ [e]) r else some pre.length
def nI (t:bC):Prop:=(0<=t.u/\t.u<0xde0b6b3a7640000)/\0<=t.x/\t.x<0xde0b6b3a7640000
instance (t:bC):Decidable (nI t):=inferInstanceAs (Decidable (_/\_))
def eY (t:bC):Int×Int:=match dS [] t.es with
 | some n=>(n,10)
 | none=>if t.es ≠ []/\nI t then (0,0) else (t.es.length,10)
def dG (t:bC):Prop:=dS [] t.es=none/\t.es ≠ []/\nI t
instance (t:bC):Decidable (dG t):=inferInstanceAs (Decidable (_/\_/\_))
theorem Na (t:bC):((eY t).2=0)=dG t:=by
 apply propext
 unfold eY dG
 cases dS [] t.es with
 | some n=>simp
 | none=>by_cases h:t.es ≠ []/\nI t<;>simp [h]
theorem aAh {pre l:List En} : dS pre l=none->pre.length<=64->pre.length+l.length<=64:=by
 induction l generalizing pre with
 | nil=>intro _ h;simpa using h
 | cons e r ih=>
  intro h h0
  simp only [dS] at h
  split at h
  ·rename_i hk
   have:=ih h (by simp;have:=hk.1;omega)
   simp at this ⊢;omega
  ·cases h
abbrev aBH:=s1 bV dX fun t=> .t [iv .i64 (eY t).1,iv .i64 (eY t).2]
theorem Q7:Ok Tryz.prog 117 aBH:=cA (aG Tryz.func117 kG.ent kG.aA (aB V9 (aB aAc aH))) (by simp [kG.c]) fun t ht _=>by
 obtain ⟨u,x,es⟩:=t
 obtain ⟨⟨u1,u2⟩,⟨x1,x2⟩,hes⟩:=ht
 simp only at u1 u2 x1 x2 hes
 have ql:=Ae es
 refine ⟨es.length+1,?_⟩
 simp only [kG.c,fL,fC,fJ,fG]
 simp [ql]
 refine lL (fun m s=> ∃ pre rest,es=pre++rest/\m=rest.length/\pre.length<=64/\tC pre/\dS [] es=dS pre rest/\s.tm 1 = .o (.c (.p 1 0))/\s.tm 7 = .o (.c (.q 2 (qE es)))/\s.tm 8 = .o (iv .i64 (es.length:Int))/\s.tm 9 = .o (iv .i64 (pre.length:Int)) /\
  s.mem 1=some [.v (.int .i64 u),.v (.int .i64 x),.q 2 (qE es)]) ?_ _ es.length _ (by omega) ?_
 ·rintro m s ⟨pre,rest,hsp,rfl,hp,hlast,hbad,t1,t7,t8,t9,m1⟩
  have hpe:pE pre:=by rw [hsp,xT] at hes;exact hes.1
  cases rest with
  | nil=>
   have e1:pre.length=es.length:=by rw [hsp];simp
   simp only [dS] at hbad
   by_cases h1:es = []
   ·subst h1
    simp [kG.l1,t1,t7,t8,t9,m1,e1,eY,dS,qE]
   ·have h1' : ¬ es.length=0:=fun h=>h1 (List.length_eq_zero_iff.1 h)
    by_cases h2:0<=u
    ·by_cases h3:u<0xde0b6b3a7640000
     ·have h3':u<=0xde0b6b3a763ffff:=by omega
      by_cases h4:0<=x
      ·by_cases h5:x<0xde0b6b3a7640000
       ·have h5':x<=0xde0b6b3a763ffff:=by omega
        simp [kG.l1,t1,t7,t8,t9,m1,e1,eY,hbad,nI,ql,h1,h1',h2,h3,h3',h4,h5,h5',u1,u2,x1,x2]
       ·have h5' : ¬ x<=0xde0b6b3a763ffff:=by omega
        simp [kG.l1,t1,t7,t8,t9,m1,e1,eY,hbad,nI,ql,h1,h1',h2,h3,h3',h4,h5,h5',u1,u2,x1,x2]
      ·simp [kG.l1,t1,t7,t8,t9,m1,e1,eY,hbad,nI,ql,h1,h1',h2,h3,h3',h4,u1,u2,x1,x2]
     ·have h3' : ¬ u<=0xde0b6b3a763ffff:=by omega
      simp [kG.l1,t1,t7,t8,t9,m1,e1,eY,hbad,nI,ql,h1,h1',h2,h3,h3',u1,u2,x1,x2]
    ·simp [kG.l1,t1,t7,t8,t9,m1,e1,eY,hbad,nI,ql,h1,h1',h2,u1,u2,x1,x2]
  | cons e r=>
   obtain ⟨c,d⟩:=e
   have hce:bD c/\bD d:=by rw [hsp,xT] at hes;exact ⟨hes.2.1,hes.2.2.1⟩
   obtain ⟨i1,i2⟩:=hce
   obtain ⟨⟨c1,c2⟩,d1,d2⟩:bD c/\bD d:=⟨i1,i2⟩
   have e0:es.length=pre.length+(r.length+1):=by rw [hsp];simp
   have e1:(pre.length:Int)<(es.length:Int):=by omega
   have hd:(qE es).drop (pre.length*2) = .v (.int .i64 c) :: .v (.int .i64 d)::qE r:=by rw [zR,hsp];simp [qE]
   have q:(qE es).length=es.length*2:=iC es
   have q1:pre.length*2+2<=es.length*2:=by omega
   have q2:(qE es).take (pre.length*2)=qE pre:=by rw [Up,hsp];simp
   have w1:IntKind.i64.wrap ((pre.length:Int)+1)=(pre.length:Int)+1:=aD (by omega) (by omega)
   have hp2:pre.length<=1000000000000:=by omega
   have q3:pre.length<=es.length:=by omega
   generalize hR:qE es=R at *
   simp only [dS] at hbad
   by_cases hk:cQ pre (c,d)
   ·rw [if_pos hk] at hbad
    simp [kG.l1,t1,t7,t8,t9,m1,e1,hd,q,q1,q2,q3,w1,ql,hpe,hp2,hlast,hk,c1,c2,d1,d2,i1,i2]
    exact ⟨⟨i1,i2⟩,r.length,by omega,pre ++ [(c,d)],r,by rw [hsp];simp,rfl,by simp;have:=hk.1;omega,fun _=>by rw [zS];exact hk.2.2.2.1,hbad,by simp⟩
   ·rw [if_neg hk] at hbad
    simp [kG.l1,t1,t7,t8,t9,m1,e1,hd,q,q1,q2,q3,w1,ql,hpe,hp2,hlast,hk,c1,c2,d1,d2,i1,i2,eY,hbad]
    exact ⟨i1,i2⟩
 ·exact ⟨[],es,rfl,rfl,by decide,by decide,rfl,by simp,by simp,by simp,by simp,by simp⟩
abbrev aCh:=s1 bV dX fun t=> .o (bv (decide (dG t)))
theorem aPb:Ok Tryz.prog 152 aCh:=cA (aG Tryz.func152 Ac.ent Ac.aA (aB Q7 aH)) (by simp [Ac.c]) fun t ht _=>by
 refine ⟨0,?_⟩
 have h:=Na t
 obtain ⟨h1,h2,h3⟩:=ht
 by_cases hm:dG t
 ·have h4:(eY t).2=0:=by rw [h];exact hm
  simp [Ac.c,h1,h2,h3,hm,h4]
  exact ⟨h1,h2⟩
 ·have h4 : ¬ (eY t).2=0:=by rw [h];exact hm
  simp [Ac.c,h1,h2,h3,hm,h4]
  exact ⟨h1,h2⟩
theorem aOJ:Ok Tryz.prog 50 Lm:=eT (aG Tryz.func50 lG.ent lG.aA aH) (by simp [lG.c]) fun l e hl he hg=>by
 refine ⟨0,?_⟩
 obtain ⟨a,b⟩:=e
 simp only [Un] at he
 have q:=iC l
 have ql:=Ae l
 obtain ⟨⟨a1,a2⟩,b1,b2⟩:=he
 by_cases h1:l.length<64
 ·have h1' : ¬ (64:Int)<=(l.length:Int):=by omega
  have hlast:=hg.1 h1
  by_cases h2:0<=a
  ·by_cases h3:a<=1125899906842624
   ·have ht:=aAT h2
    by_cases h4:a%86400=0
    ·by_cases h5:0<=b
     ·by_cases h6:b<=1000
      ·by_cases h7:l = []
       ·subst h7
        simp [lG.c,qE,cQ,a1,a2,b1,b2,h2,h3,h4,h5,h6,ht]
       ·obtain ⟨pre,⟨c,d⟩,rfl⟩:=Qn l h7
        rw [zS] at hlast
        simp only at hlast
        have hn:pre.length+1<64:=by simpa using h1
        have w1:IntKind.i64.wrap (pre.length:Int)=(pre.length:Int):=aD (by omega) (by omega)
        have hd:(qE (pre ++ [(c,d)])).drop (pre.length*2) = [.v (.int .i64 c),.v (.int .i64 d)]:=by rw [zR];simp [qE]
        have q:(qE (pre ++ [(c,d)])).length=pre.length*2+2:=by rw [iC];simp;omega
        have q2:(pre.length*2+2)/2=pre.length+1:=by omega
        have e0 : ¬ ((pre.length:Int)+1=0):=by omega
        have e1 : ¬ (64:Int)<=(pre.length:Int)+1:=by omega
        obtain ⟨y,hy⟩ : ∃ y,y=d+1:=⟨_,rfl⟩
        obtain ⟨z,hz⟩ : ∃ z,z=d-1:=⟨_,rfl⟩
        have w2:IntKind.i64.wrap (d+1)=y:=by
         rw [hy]
         have:=hlast.1;have:=hlast.2
         exact aD (by omega) (by omega)
        have w3:IntKind.i64.wrap (d-1)=z:=by
         rw [hz]
         have:=hlast.1;have:=hlast.2
         exact aD (by omega) (by omega)
        have hE:cQ (pre ++ [(c,d)]) (a,b)=(c<a/\(b=y∨b=z)):=by
         apply propext
         rw [hy,hz]
         simp [cQ,zS,hn,h2,h3,h4,h5,h6]
        simp only [hE,Re,Uo]
        clear hE hl hg
        generalize qE (pre ++ [(c,d)])=R at *
        clear hy hz
        by_cases h8:c<a
        ·by_cases h9':b=y
         ·have h9:=eq_true h9'
          simp [lG.c,q,q2,a1,a2,b1,b2,h2,h3,h4,h5,h6,ht,w1,w2,w3,hd,e0,e1,h8,h9]
         ·have h9:=eq_false h9'
          by_cases h10':b=z
          ·have h10:=eq_true h10'
           simp [lG.c,q,q2,a1,a2,b1,b2,h2,h3,h4,h5,h6,ht,w1,w2,w3,hd,e0,e1,h8,h9,h10]
          ·have h10:=eq_false h10'
           simp [lG.c,q,q2,a1,a2,b1,b2,h2,h3,h4,h5,h6,ht,w1,w2,w3,hd,e0,e1,h8,h9,h10]
        ·simp [lG.c,q,q2,a1,a2,b1,b2,h2,h3,h4,h5,h6,ht,w1,w2,w3,hd,e0,e1,h8]
      ·simp [lG.c,ql,cQ,a1,a2,b1,b2,h1,h1',h2,h3,h4,h5,h6,ht]
     ·simp [lG.c,ql,cQ,a1,a2,b1,b2,h1,h1',h2,h3,h4,h5,ht]
    ·simp [lG.c,ql,cQ,a1,a2,b1,b2,h1,h1',h2,h3,h4,ht]
   ·simp [lG.c,ql,cQ,a1,a2,b1,b2,h1,h1',h2,h3]
  ·simp [lG.c,ql,cQ,a1,a2,b1,b2,h1,h1',h2]
 ·have h1':(64:Int)<=(l.length:Int):=by omega
  simp [lG.c,ql,cQ,a1,a2,b1,b2,h1,h1']
abbrev aCH:=s1 bV dX fun t=> .t [iv .i64 (eY t).1,bv (decide (dG t))]
theorem aOz:Ok Tryz.prog 28 aCH:=cA (aG Tryz.func28 kK.ent kK.aA (aB aOJ aH)) (by simp [kK.c]) fun t ht _=>by
 obtain ⟨u,x,es⟩:=t
 obtain ⟨⟨u1,u2⟩,⟨x1,x2⟩,hes⟩:=ht
 simp only at u1 u2 x1 x2 hes
 have ql:=Ae es
 refine ⟨es.length+1,?_⟩
 simp only [kK.c,fL,fC,fJ,fG]
 simp [ql]
 refine lL (fun m s=> ∃ pre rest,es=pre++rest/\m=rest.length/\pre.length<=64/\tC pre/\dS [] es=dS pre rest/\s.tm 1 = .o (.c (.p 1 0))/\s.tm 4 = .o (iv .i64 (pre.length:Int)) /\
  s.mem 1=some [.v (.int .i64 u),.v (.int .i64 x),.q 2 (qE es)]) ?_ _ es.length _ (by omega) ?_
 ·rintro m s ⟨pre,rest,hsp,rfl,hp,hlast,hbad,t1,t4,m1⟩
  have hpe:pE pre:=by rw [hsp,xT] at hes;exact hes.1
  cases rest with
  | nil=>
   have e1:pre.length=es.length:=by rw [hsp];simp
   simp only [dS] at hbad
   by_cases h1:es = []
   ·subst h1
    simp [kK.l1,t1,t4,m1,e1,eY,dG,dS,qE]
   ·have h1' : ¬ es.length=0:=fun h=>h1 (List.length_eq_zero_iff.1 h)
    have h1p:0<es.length:=by omega
    by_cases h2:0<=u
    ·by_cases h3:u<0xde0b6b3a7640000
     ·have h3':u<=0xde0b6b3a763ffff:=by omega
      by_cases h4:0<=x
      ·by_cases h5:x<0xde0b6b3a7640000
       ·have h5':x<=0xde0b6b3a763ffff:=by omega
        simp [kK.l1,t1,t4,m1,e1,eY,dG,hbad,nI,ql,h1,h1',h1p,h2,h3,h3',h4,h5,h5',u1,u2,x1,x2]
       ·have h5' : ¬ x<=0xde0b6b3a763ffff:=by omega
        simp [kK.l1,t1,t4,m1,e1,eY,dG,hbad,nI,ql,h1,h1',h1p,h2,h3,h3',h4,h5,h5',u1,u2,x1,x2]
      ·simp [kK.l1,t1,t4,m1,e1,eY,dG,hbad,nI,ql,h1,h1',h1p,h2,h3,h3',h4,u1,u2,x1,x2]
     ·have h3' : ¬ u<=0xde0b6b3a763ffff:=by omega
      simp [kK.l1,t1,t4,m1,e1,eY,dG,hbad,nI,ql,h1,h1',h1p,h2,h3,h3',u1,u2,x1,x2]
    ·simp [kK.l1,t1,t4,m1,e1,eY,dG,hbad,nI,ql,h1,h1',h1p,h2,u1,u2,x1,x2]
  | cons e r=>
   obtain ⟨c,d⟩:=e
   have hce:bD c/\bD d:=by rw [hsp,xT] at hes;exact ⟨hes.2.1,hes.2.2.1⟩
   obtain ⟨i1,i2⟩:=hce
   obtain ⟨⟨c1,c2⟩,d1,d2⟩:bD c/\bD d:=⟨i1,i2⟩
   have e0:es.length=pre.length+(r.length+1):=by rw [hsp];simp
   have e1:(pre.length:Int)<(es.length:Int):=by omega
   have hd:(qE es).drop (pre.length*2) = .v (.int .i64 c) :: .v (.int .i64 d)::qE r:=by rw [zR,hsp];simp [qE]
   have q:(qE es).length=es.length*2:=iC es
   have q1:pre.length*2+2<=es.length*2:=by omega
   have q2:(qE es).take (pre.length*2)=qE pre:=by rw [Up,hsp];simp
   have w1:IntKind.i64.wrap ((pre.length:Int)+1)=(pre.length:Int)+1:=aD (by omega) (by omega)
   have hp2:pre.length<=1000000000000:=by omega
   have q3:pre.length<=es.length:=by omega
   generalize hR:qE es=R at *
   simp only [dS] at hbad
   by_cases hk:cQ pre (c,d)
   ·rw [if_pos hk] at hbad
    simp [kK.l1,t1,t4,m1,e1,hd,q,q1,q2,q3,w1,ql,hpe,hp2,hlast,hk,c1,c2,d1,d2,i1,i2]
    exact ⟨⟨i1,i2⟩,r.length,by omega,pre ++ [(c,d)],r,by rw [hsp];simp,rfl,by simp;have:=hk.1;omega,fun _=>by rw [zS];exact hk.2.2.2.1,hbad,by simp⟩
   ·rw [if_neg hk] at hbad
    simp [kK.l1,t1,t4,m1,e1,hd,q,q1,q2,q3,w1,ql,hpe,hp2,hlast,hk,c1,c2,d1,d2,i1,i2,eY,dG,hbad]
    exact ⟨i1,i2⟩
 ·exact ⟨[],es,rfl,rfl,by decide,by decide,rfl,by simp,by simp,by simp⟩
theorem aDb {w:World} (G:aZ w):Lib.TabIs Tryz.prog w "internal/strconv.uint64pow10" .u64 Lib.pow10Tab:=by
 obtain ⟨t,p,h⟩:=G.pQ
 have hg:Tryz.prog.globalNamed "internal/strconv.uint64pow10" = some 5:=by kernel_rfl
 unfold Lib.TabIs World.var?
 rw [hg]
 simp only [Option.bind_some,h]
 rfl
abbrev aIk:=s1 bF dX fun n=> .o (gR (Lib.itoa n))
theorem aPp:Ok Tryz.prog 203 aIk:=Kk (enters Tryz.func203 (by kernel_rfl) (by kernel_rfl)) fun zs r hr=>by
 obtain ⟨n,rfl,hn,-,rfl⟩:=pO hr
 refine ⟨rfl,[.int .i64 n],rfl,fun w G=> ?_⟩
 obtain ⟨h1,h2⟩:=hn
 refine (Tryz.strconv_Itoa n h1 (by omega) w (aDb G)).mono ?_
 rintro e w' ⟨rfl,k,os,rfl⟩
 exact ⟨_,rfl,fun L=>⟨rfl,rfl⟩,Lib.below_grow _ _ (Nat.le_refl _) _ _⟩
theorem Ye {n:Int} (h:0<=n) (h2:n<10):Lib.itoa n = [UInt8.ofNat (48+n.toNat)]:=by
 unfold Lib.itoa
 rw [if_neg (by omega),Lib.decDigits_one (by omega)]
theorem aGa {n:Int} (h:10<=n):Lib.itoa n=Lib.itoa (n/10) ++ [UInt8.ofNat (48+(n%10).toNat)]:=by
 unfold Lib.itoa
 rw [if_neg (by omega),if_neg (by omega),Lib.decDigits,dif_neg (by omega)]
 have e1:n.toNat/10=(n/10).toNat:=by omega
 have e2:n.toNat%10=(n%10).toNat:=by omega
 rw [e1,e2]
theorem Rt {e:TypeId} {x:Int} : fS ⟨e,1,some .u8⟩ 1 [.v (.int .u8 x)] = .r .u8 [x]:=by simp [fS,rQ]
abbrev M6 (k:Nat):=s1 bF (fun n=>0<=n/\n<10 ^ k) fun n=> .o (gR (Lib.itoa n))
theorem Te {x:Int} : strOfNums [x]=⟨[UInt8.ofNat x.toNat].toArray⟩:=by
 simp [strOfNums]
theorem T0 : ∀ k,Ok Tryz.prog 53 (M6 k)
 | 0=>cA (aG Tryz.func53 qA.ent qA.aA aH) (by simp [qA.c]) fun n hn hg=>by
  refine ⟨0,?_⟩
  obtain rfl:n=0:=by have:=hg.1;have:=hg.2;simp at this;omega
  simp [Rt,qA.c]
  have e:IntKind.u8.wrap (IntKind.i64.wrap 48)=48:=by decide
  rw [e,Te,Ye (by decide) (by decide)]
  rfl
 | k+1=>cA (aG Tryz.func53 qA.ent qA.aA (aB (T0 k) aH)) (by simp [qA.c]) fun n hn hg=>by
  refine ⟨0,?_⟩
  obtain ⟨h0,h1⟩:=hg
  obtain ⟨n1,n2⟩:=hn
  by_cases h2:n<10
  ·have e:IntKind.u8.wrap (IntKind.i64.wrap (48+n))=48+n:=by rw [aD (by omega) (by omega),Kv (by omega) (by omega)]
   simp [Rt,qA.c,h2,e]
   have e2:(48+n).toNat=48+n.toNat:=by omega
   rw [Te,Ye h0 h2,e2]
   rfl
  ·have e1:IntKind.i64.wrap (n.tdiv 10)=n/10:=by rw [Int.tdiv_eq_ediv_of_nonneg h0,aD (by omega) (by omega)]
   have e0:n.tmod 10=n%10:=Int.tmod_eq_emod_of_nonneg h0
   have e2:IntKind.u8.wrap (IntKind.i64.wrap (48+n%10))=48+n%10:=by rw [aD (by omega) (by omega),Kv (by omega) (by omega)]
   have e3:(48+n%10).toNat=48+(n%10).toNat:=by omega
   have hk:n/10<10 ^ k:=by
    rw [Int.pow_succ] at h1
    generalize (10:Int) ^ k=p at *
    omega
   have hl:=Lib.itoa_length_le (n/10) (by omega) (by omega)
   have hc:0<=n/10:=by omega
   have hd : -0x8000000000000000<=n/10/\n/10<0x8000000000000000:=by omega
   simp [Rt,qA.c,h2,e0,e1,e2,Te,e3,hk,hc,hd]
   rw [aGa (n:=n) (by omega)]
   exact ⟨by omega,by rw [UInt8.ofNat_add];rfl⟩
abbrev aI2:=s1 bF (fun n=>0<=n) fun n=> .o (gR (Lib.itoa n))
theorem W1:Ok Tryz.prog 53 aI2:=fun zs r hr=>by
 obtain ⟨n,rfl,hn,hg,rfl⟩:=pO hr
 refine T0 19 _ _ ?_
 obtain ⟨n1,n2⟩:=hn
 have h:0<=n/\n<10 ^ 19:=⟨hg,by simp;omega⟩
 simp [M6,s1,dL,n1,n2,h]
 omega
end Go.Proofs.YtfcbohachbeamaaGreatDoor.E
end
section
namespace Go.Proofs.YtfcbohachbeamaaGreatDoor.E
open Go.VC Go.RowKit
def He:List QC->Bool
 | []=>true
 | .v (.string _)::r=>He r
 | _=>false
def Gv:List QC->List (List UInt8)
 | .v (.string b)::r=>b.data.toList::Gv r
 | _=> []
theorem Rr : ∀ l,He (qS l)=true
 | []=>rfl
 | x::l=>by
  have h:=Rr l
  simp only [qS,List.map_cons,sv,He] at h ⊢
  exact h
theorem Mq : ∀ l,Gv (qS l)=l
 | []=>rfl
 | x::l=>by
  have:=Mq l
  simp only [qS,List.map_cons,sv,Gv] at this ⊢
  rw [this]
theorem aSr : ∀ {cs:List QC},He cs=true->cs=qS (Gv cs)
 | [],_=>rfl
 | .v (.string b)::r,h=>by
  have:=aSr (cs:=r) h
  simp only [Gv,qS,List.map_cons,Uh]
  rw [this,Mq]
  rfl
def Iv:AP->Bool
 | .c (.q m cs)=>decide (m=1)&&He cs
 | _=>false
def Pg:AP->List (List UInt8)
 | .c (.q _ cs)=>Gv cs
 | _=> []
def Fz:Co (List (List UInt8)) where
 e l:= .c (.q 1 (qS l))
 p _:=True
 v a:=Iv a=true
 dv a:=inferInstance
 t:=Pg
 some {a} h:=by
  unfold Iv at h
  split at h
  ·simp only [Bool.and_eq_true,decide_eq_true_eq] at h
   obtain ⟨rfl,h⟩:=h
   exact ⟨by simp only [Pg];rw [← aSr h],trivial⟩
  ·cases h
 enc {x} h:=⟨by show (decide (1=1)&&He (qS x))=true;simp [Rr],Mq x⟩
theorem aQN {l:List (List UInt8)} : Iv (.c (.q 1 (qS l)))=true:=by simp [Iv,Rr]
theorem aDZ {l:List (List UInt8)} : Pg (.c (.q 1 (qS l)))=l:=Mq l
theorem aCD {l:List (List UInt8)} : Fz.e l = .c (.q 1 (qS l)):=_root_.id rfl
theorem aNK {a:AP} : Fz.v a=(Iv a=true):=_root_.id rfl
theorem aDy {a:AP} : Fz.t a=Pg a:=_root_.id rfl
theorem aO1 {l:List (List UInt8)} : Fz.p l=True:=_root_.id rfl
attribute [simp] aQN aDZ aCD aNK aDy aO1
abbrev aCt:=s2 Fz jQ (fun x y=>y = []/\x ≠ []/\x.length<=1000/\x.flatten.length<=1000000) fun x _=> .o (gR x.flatten)
theorem B7 (l:List (List UInt8)):Lib.join l []=l.flatten:=by
 cases l with
 | nil=>rfl
 | cons x r=>
  rw [Lib.join_cons]
  have : ∀ r:List (List UInt8),Lib.joinTail [] r=r.flatten:=fun r=>by simp [Lib.joinTail]
  rw [this];rfl
theorem aPt:Ok Tryz.prog 153 aCt:=fun zs r hr=>by
 obtain ⟨x,y,rfl,-,-,⟨rfl,h0,h1,h2⟩,rfl⟩:=jF hr
 refine .inl ⟨enters Tryz.func153 (by kernel_rfl) (by kernel_rfl),rfl,fun S w vs hS hG hrep=> ?_⟩
 obtain ⟨v,vs,rfl,hv,hr⟩ : ∃ v vs',vs=v::vs'/\(Fz.e x).rep ⟨S,fun _=>0,fun _=>False⟩ w v/\cP ⟨S,fun _=>0,fun _=>False⟩ w [jQ.e []] vs':=by
  cases vs with
  | nil=>exact hrep.elim
  | cons v vs=>exact ⟨v,vs,rfl,hrep.1,hrep.2⟩
 obtain ⟨u,vs,rfl,hu,hr⟩ : ∃ v vs',vs=v::vs'/\(jQ.e []).rep ⟨S,fun _=>0,fun _=>False⟩ w v/\cP ⟨S,fun _=>0,fun _=>False⟩ w [] vs':=by
  cases vs with
  | nil=>exact hr.elim
  | cons v vs=>exact ⟨v,vs,rfl,hr.1,hr.2⟩
 obtain rfl:vs = []:=by
  cases vs with
  | nil=>rfl
  | cons _ _=>exact hr.elim
 obtain rfl:u=sv []:=hu.1
 rcases hv with ⟨rfl,hx⟩ | ⟨b,o,n,c,rfl,hn,hc,hb,hbw,hst⟩
 ·simp [qS] at hx
  exact absurd hx h0
 ·have hn:x.length=n:=by simpa [qS] using hn
  subst hn
  have hcells : ∀ (j:Nat) y,(x.map fun l=>(⟨l.toArray⟩:ByteArray))[j]? = some y->w.cell? ⟨b,o+j,none⟩=some (.string y):=by
   intro j y hy
   rw [List.getElem?_map] at hy
   cases hj:x[j]? with
   | none=>rw [hj] at hy;cases hy
   | some l=>
    rw [hj] at hy
    obtain rfl:(⟨l.toArray⟩:ByteArray)=y:=by simpa using hy
    obtain ⟨v,hv,hq⟩:=hst j (.v (sv l)) (by simp [qS,hj])
    have hq:v=sv l:=hq.1
    rw [hv,hq]
    rfl
  have em:(x.map fun l=>(⟨l.toArray⟩:ByteArray)).map (·.data.toList)=x:=by
   rw [List.map_map]
   exact List.map_id x
  have hl:=Tryz.strings_Join b o c (x.map fun l=>(⟨l.toArray⟩:ByteArray)) ⟨#[]⟩ w hcells hbw (by simp;omega) (by simpa using hc) (by rw [em];show (Lib.join x []).length<=_;rw [B7];omega)
  rw [em] at hl
  simp only [List.length_map] at hl
  refine hl.mono ?_
  rintro e w' ⟨rfl,hb⟩
  have e3:Lib.join x ([]:List UInt8)=x.flatten:=B7 x
  exact ⟨_,rfl,⟨by show Value.string ⟨(Lib.join x []).toArray⟩=sv x.flatten;rw [e3];rfl,rfl⟩,hb⟩
end Go.Proofs.YtfcbohachbeamaaGreatDoor.E
end
