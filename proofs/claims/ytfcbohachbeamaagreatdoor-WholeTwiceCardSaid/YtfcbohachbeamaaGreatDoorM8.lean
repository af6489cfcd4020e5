/- What the laws' code answers: part 8 of what the rows of this seat lean on. -/
import Derived.Test.YtfcbohachbeamaaGreatDoorM7
import Derived.Test.YtfcbohachbeamaaGreatDoorM3
set_option linter.unusedVariables false
set_option linter.unusedSimpArgs false
set_option maxHeartbeats 8000000
set_option maxRecDepth 100000
section
namespace Go.Proofs.YtfcbohachbeamaaGreatDoor.E
open Go.VC Go.RowKit
abbrev spW:List (Nat×(List AP->Option AV)):= [(162,aAW),(223,aBg),(165,Ya),(64,Yq),(66,D4),(206,Yr),(222,X4),(160,Z3)]
theorem eQ:fA Tryz.prog (gV spW):=aB aHQ (aB aHK (aB aJg (aB aGc (aB aGv (aB aHA (aB aCT (aB aJi aH)))))))
def md (x:Int):Prop:= -0x1000000000000000000000000000000000000000000000000000000000000000000000000000<x/\x<0x1000000000000000000000000000000000000000000000000000000000000000000000000000
instance (x:Int):Decidable (md x):=inferInstanceAs (Decidable (_/\_))
theorem Rh {x:Int} (h : -0x80000000000000000000000000000000<=x/\x<0x80000000000000000000000000000000):md x:=by unfold md;omega
theorem Va {x:Int} (h:md x):cJ x:=by unfold md at h;unfold cJ;omega
abbrev aQF:List (Nat×(List AP->Option AV)):= [(24,A5),(16,H0),(25,I9),(38,Yd),(23,v8),(44,Y1),(39,P9),(15,G7),(18,aAq)]
theorem aP2:fA Tryz.prog (gV aQF):=aB aG4 (aB L2 (aB aA6 (aB E0 (aB Zs (aB V3 (aB P4 (aB aFO (aB okWideB aH))))))))
end Go.Proofs.YtfcbohachbeamaaGreatDoor.E
end
section
namespace Go.Proofs.YtfcbohachbeamaaGreatDoor.E
open Go.VC Go.RowKit
abbrev Ih (d s a:Int):AP:= .g [.v (.int .i64 d),.v (.int .i64 s),.v (.int .i64 a)]
def sB:AP->Bool
 | .g [.v (.int .i64 d),.v (.int .i64 s),.v (.int .i64 a)]=>decide ((-0x8000000000000000<=d/\d<0x8000000000000000)/\(-0x8000000000000000<=s/\s<0x8000000000000000)/\(-0x8000000000000000<=a/\a<0x8000000000000000))
 | _=>false
def xQ:AP->Int×Int×Int
 | .g [.v (.int _ d),.v (.int _ s),.v (.int _ a)]=>(d,s,a)
 | _=>(0,0,0)
theorem Q9 {d s a:Int} : (sB (.g [.v (.int .i64 d),.v (.int .i64 s),.v (.int .i64 a)])=true)=((-0x8000000000000000<=d/\d<0x8000000000000000)/\(-0x8000000000000000<=s/\s<0x8000000000000000)/\(-0x8000000000000000<=a/\a<0x8000000000000000)):=by simp only [sB,decide_eq_true_eq]
theorem aHb {d s a:Int} {k k' k'':IntKind} : xQ (.g [.v (.int k d),.v (.int k' s),.v (.int k'' a)])=(d,s,a):=_root_.id rfl
def dV:Co (Int×Int×Int) where
 e:=fun l=>Ih l.1 l.2.1 l.2.2
 p:=fun l=>(-0x8000000000000000<=l.1/\l.1<0x8000000000000000)/\(-0x8000000000000000<=l.2.1/\l.2.1<0x8000000000000000)/\(-0x8000000000000000<=l.2.2/\l.2.2<0x8000000000000000)
 v a:=sB a=true
 dv a:=inferInstance
 t:=xQ
 some {a} h:=by
  unfold sB at h
  split at h
  ·exact ⟨rfl,of_decide_eq_true h⟩
  ·cases h
 enc {x} h:=⟨by rw [Q9];exact h,rfl⟩
theorem Tn {l:Int×Int×Int} : dV.e l = .g [.v (.int .i64 l.1),.v (.int .i64 l.2.1),.v (.int .i64 l.2.2)]:=_root_.id rfl
theorem aOX {a:AP} : dV.v a=(sB a=true):=_root_.id rfl
theorem aIy {a:AP} : dV.t a=xQ a:=_root_.id rfl
theorem aCB {l:Int×Int×Int} : dV.p l=((-0x8000000000000000<=l.1/\l.1<0x8000000000000000)/\(-0x8000000000000000<=l.2.1/\l.2.1<0x8000000000000000)/\(-0x8000000000000000<=l.2.2/\l.2.2<0x8000000000000000)):=_root_.id rfl
attribute [simp] Q9 aHb Tn aOX aIy aCB
def yL (l:Int×Int×Int):Prop:=0<=l.2.1/\l.2.1<86400/\0<=l.2.2/\l.2.2<0xde0b6b3a7640000
instance (l:Int×Int×Int):Decidable (yL l):=inferInstanceAs (Decidable (_/\_))
def bS (n:Int):Prop:= -1099511627776<=n/\n<=1099511627776
instance (n:Int):Decidable (bS n):=inferInstanceAs (Decidable (_/\_))
def jn (l:Int×Int×Int):Int:=(l.1*86400+l.2.1)*0xde0b6b3a7640000+l.2.2
def eP (t:Int):Int×Int×Int:=(t/0xde0b6b3a7640000/86400,t/0xde0b6b3a7640000%86400,t%0xde0b6b3a7640000)
abbrev rH (l:Int×Int×Int):AP:=Ih l.1 l.2.1 l.2.2
abbrev X6:=s1 bF dX fun n=> .o (bv (decide (bS n)))
end Go.Proofs.YtfcbohachbeamaaGreatDoor.E
end
section
namespace Go.VC
section
variable {sp:Spec} {d:Option Nat} {s:St} {K:AV->St->Prop} {Q:St->Prop} {os:List bW}
theorem aMB {k:Nat} {a:SC} {R:AX->St->Prop} : bY sp k (.scope a) s R=bY sp k a s R:=_root_.id rfl
def Et (x:AV) (s:St) (K:AV->St->Prop):Prop:=x.Hw=true/\K x s
theorem aMU {x:SA} : aR sp d (.cB x) s K=Et (x.ev s) s K:=by
 unfold aR
 simp only [aC]
 exact jS
theorem aLc {n o:Nat} : Et (.o (.c (.p n o))) s K=K (.o (.c (.p n o))) s:=by simp [Et,AV.Hw]
theorem aOV {x:Value} : Et (.o (.c (.k x))) s K=K (.o (.c (.k x))) s:=by simp [Et,AV.Hw]
theorem aJO {cs:List QC} : Et (.o (.c (.kq cs))) s K=K (.o (.c (.kq cs))) s:=by simp [Et,AV.Hw]
def Ic (ne:Bool) (x:AV) (s:St) (K:AV->St->Prop):Prop:=
 match x with
 | .o (.c (.p _ _))| .o (.c (.k _))| .o (.c (.kq _))=>K (.o (.c (.v (.bool ne)))) s
 | .o (.c (.v (.pointer none)))=>K (.o (.c (.v (.bool !ne)))) s
 | _=>False
theorem aN5 {ne:Bool} {n o:Nat} : Ic ne (.o (.c (.p n o))) s K=K (.o (.c (.v (.bool ne)))) s:=_root_.id rfl
theorem aF6 {ne:Bool} {x:Value} : Ic ne (.o (.c (.k x))) s K=K (.o (.c (.v (.bool ne)))) s:=_root_.id rfl
theorem aEg {ne:Bool} {cs:List QC} : Ic ne (.o (.c (.kq cs))) s K=K (.o (.c (.v (.bool ne)))) s:=_root_.id rfl
theorem aNB {ne:Bool} : Ic ne (.o (.c (.v (.pointer none)))) s K=K (.o (.c (.v (.bool !ne)))) s:=_root_.id rfl
theorem aKv {ne:Bool} {x:SA} : aR sp d (.gW ne x) s K=Ic ne (x.ev s) s K:=by
 unfold aR
 simp only [aC]
 cases x.ev s with
 | t l=>rfl
 | io _ _ _=>rfl
 | o a=>
  cases a with
  | g cs=>rfl
  | c a=>
   cases a with
   | p n o=>cases ne<;>rfl
   | k x=>cases ne<;>rfl
   | kq cs=>cases ne<;>rfl
   | v x=>
    cases x with
    | pointer A=>cases A<;>cases ne<;>rfl
    | _=>rfl
   | _=>rfl
def V4 (ne:Bool) (x:AV) (s:St) (K:AV->St->Prop):Prop:=
 match x with
 | .o (.c (.v .nilIface))=>K (.o (.c (.v (.bool !ne)))) s
 | _=>False
theorem aPD {ne:Bool} : V4 ne (.o (.c (.v .nilIface))) s K=K (.o (.c (.v (.bool !ne)))) s:=_root_.id rfl
theorem aEl {ne:Bool} {x:SA} : aR sp d (.yU ne x) s K=V4 ne (x.ev s) s K:=by
 unfold aR
 simp only [aC]
 cases x.ev s with
 | t l=>rfl
 | io _ _ _=>rfl
 | o a=>
  cases a with
  | g cs=>rfl
  | c a=>
   cases a with
   | v x=>cases x<;>rfl
   | _=>rfl
def Qp (o:Option (List FC)) (f:Nat) (s:St) (K:AV->St->Prop):Prop:=
 match o with
 | some qs=>K (.o (.c (.fn f qs))) s
 | none=>False
def Xy (o:Option (List AP)) (f:Nat) (s:St) (K:AV->St->Prop):Prop:=
 match o with
 | some aRR=>Qp (tK aRR) f s K
 | none=>False
theorem aQY {f:Nat} {qs:List FC} : Qp (some qs) f s K=K (.o (.c (.fn f qs))) s:=_root_.id rfl
theorem V2 {f:Nat} {aRR:List AP} : Xy (some aRR) f s K=Qp (tK aRR) f s K:=_root_.id rfl
theorem aIG {f:Nat} {caps:List SA} : aR sp d (.vZ f caps) s K=Xy (dC s caps) f s K:=by
 unfold aR
 simp only [aC]
 cases dC s caps with
 | none=>rfl
 | some aRR=>rw [V2];dsimp only;cases tK aRR<;>rfl
def Wd (o:Option (List QC)) (f:Nat) (aRR:List AP) (sp:Spec) (s:St) (K:AV->St->Prop):Prop:=
 match o with
 | some qs=>jR (sp f (aRR.map AP.wk++qs.map fun q=> .c q.ac)) s K
 | none=>False
theorem aGx {f:Nat} {qs:List QC} {aRR:List AP} : Wd (some qs) f aRR sp s K=jR (sp f (aRR.map AP.wk++qs.map fun q=> .c q.ac)) s K:=_root_.id rfl
def Q5 (x:AV) (aRR:Option (List AP)) (sp:Spec) (s:St) (K:AV->St->Prop):Prop:=
 match x,aRR with
 | .o (.c (.fn f caps)),some aRR=>aRR.all (·.free)=true/\Wd (uY caps) f aRR sp s K
 | _,_=>False
theorem aAp {f:Nat} {caps:List FC} {aRR:List AP} : Q5 (.o (.c (.fn f caps))) (some aRR) sp s K=(aRR.all (·.free)=true/\Wd (uY caps) f aRR sp s K):=_root_.id rfl
theorem aL2 {x:SA} {args:List SA} : aR sp d (.dyn x args) s K=Q5 (x.ev s) (dC s args) sp s K:=by
 unfold aR
 simp only [aC]
 cases x.ev s with
 | t l=>rfl
 | io _ _ _=>rfl
 | o a=>
  cases a with
  | g cs=>rfl
  | c a=>
   cases a with
   | fn f caps=>
    cases dC s args with
    | none=>rfl
    | some aRR=>
     rw [aAp];dsimp only;rw [wD];congr 1
     cases uY caps with
     | none=>rfl
     | some qs=>exact Vs
   | _=>rfl
def wC (x:AV) (F:List UInt8->Prop):Prop:=
 match x with
 | .o (.c (.v (.string b)))=>F b.data.toList
 | _=>False
theorem Pl {b:ByteArray} {F:List UInt8->Prop} : wC (.o (.c (.v (.string b)))) F=F b.data.toList:=_root_.id rfl
theorem Bq (x:AV):(∃ v,x = .o (.c (.v v)))∨(x.val=none/\(∀ F,wC x F=False)):=by
 cases x with
 | t l=>exact .inr ⟨rfl,fun _=>rfl⟩
 | io _ _ _=>exact .inr ⟨rfl,fun _=>rfl⟩
 | o a=>
  cases a with
  | g cs=>exact .inr ⟨rfl,fun _=>rfl⟩
  | c a=>cases a<;>first | exact .inl ⟨_,rfl⟩ | exact .inr ⟨rfl,fun _=>rfl⟩
theorem aCj {x:SA} : aR sp d (.rG x) s K=wC (x.ev s) (fun l=>K (.o (.c (.r .u8 (l.map fun c=>(c.toNat:Int))))) s):=by
 unfold aR
 simp only [aC]
 rcases Bq (x.ev s) with ⟨v,h⟩ | ⟨h,h'⟩
 ·rw [h];cases v<;>rfl
 ·rw [h,h'];rfl
theorem aM5 {x:SA} : aR sp d (.mQ x) s K=wC (x.ev s) (fun l=>K (.o (.c (.v (.int .i64 l.length)))) s):=by
 unfold aR
 simp only [aC]
 rcases Bq (x.ev s) with ⟨v,h⟩ | ⟨h,h'⟩
 ·rw [h];cases v<;>rfl
 ·rw [h,h'];rfl
def Cr (i:AV) (F:Int->Prop):Prop:=
 match i with
 | .o (.c (.v (.int _ j)))=>F j
 | _=>False
theorem r8 {k:IntKind} {j:Int} {F:Int->Prop} : Cr (.o (.c (.v (.int k j)))) F=F j:=_root_.id rfl
theorem Ut (x:AV):(∃ k j,x = .o (.c (.v (.int k j))))∨((∀ F,Cr x F=False) /\ ∀ k j,x.val≠some (.int k j)):=by
 cases x with
 | t l=>exact .inr ⟨fun _=>rfl,fun _ _ h=>by cases h⟩
 | io _ _ _=>exact .inr ⟨fun _=>rfl,fun _ _ h=>by cases h⟩
 | o a=>
  cases a with
  | g cs=>exact .inr ⟨fun _=>rfl,fun _ _ h=>by cases h⟩
  | c a=>
   cases a with
   | v v=>cases v<;>first | exact .inl ⟨_,_,rfl⟩ | exact .inr ⟨fun _=>rfl,fun _ _ h=>by cases h⟩
   | _=>exact .inr ⟨fun _=>rfl,fun _ _ h=>by cases h⟩
theorem aFt {x i:SA} : aR sp d (.nJ x i) s K=wC (x.ev s) (fun l=>Cr (i.ev s) fun j=>(0<=j/\j<l.length)/\K (.o (.c (.v (.int .u8 (l.getD j.toNat 0).toNat)))) s):=by
 unfold aR
 simp only [aC]
 rcases Bq (x.ev s) with ⟨v,h⟩ | ⟨h,h'⟩
 ·rw [h]
  cases v with
  | string b=>
   rw [Pl]
   rcases Ut (i.ev s) with ⟨k,j,hi⟩ | ⟨hi,hv⟩
   ·rw [hi];exact jS
   ·rw [hi]
    dsimp only [AV.val]
    split
    ·rename_i k j h1 h2;exact absurd h2 (hv _ _)
    ·rfl
  | _=>rfl
 ·rw [h,h'];rfl
def Zb (i j:Option Int) (l:List UInt8) (s:St) (K:AV->St->Prop):Prop:=
 match i,j with
 | some i,some j=>(0<=i/\i<=j/\j<=l.length)/\K (.o (.c (.v (.string ⟨((l.take j.toNat).drop i.toNat).toArray⟩)))) s
 | _,_=>False
theorem aOG {i j:Int} {l:List UInt8} : Zb (some i) (some j) l s K=((0<=i/\i<=j/\j<=l.length)/\K (.o (.c (.v (.string ⟨((l.take j.toNat).drop i.toNat).toArray⟩)))) s):=_root_.id rfl
theorem aJV {x:SA} {lo hi:Option SA} : aR sp d (.kZ x lo hi) s K=wC (x.ev s) (fun l=>Zb (bO s lo 0) (bO s hi l.length) l s K):=by
 unfold aR
 simp only [aC]
 rcases Bq (x.ev s) with ⟨v,h⟩ | ⟨h,h'⟩
 ·rw [h]
  cases v with
  | string b=>
   rw [Pl]
   dsimp only [AV.val]
   cases bO s lo 0 with
   | none=>rfl
   | some i=>
    cases bO s hi b.data.toList.length with
    | none=>rfl
    | some j=>exact jS
  | _=>rfl
 ·rw [h,h'];rfl
theorem aNk {x y:SA} : aR sp d (.cat x y) s K=wC (x.ev s) (fun a=>wC (y.ev s) fun b=>a.length+b.length<=0x7fffffffffffffff/\K (.o (.c (.v (.string ⟨(a++b).toArray⟩)))) s):=by
 unfold aR
 simp only [aC]
 rcases Bq (x.ev s) with ⟨v,h⟩ | ⟨h,h'⟩
 ·rw [h]
  cases v with
  | string p=>
   rw [Pl]
   rcases Bq (y.ev s) with ⟨u,g⟩ | ⟨g,g'⟩
   ·rw [g]
    cases u with
    | string q=>exact jS
    | _=>rfl
   ·rw [g,g'];rfl
  | _=>rfl
 ·rw [h,h'];rfl
def Wm (i j:Option Int) (m m':Nat) (cs:List QC) (s:St) (K:AV->St->Prop):Prop:=
 match i,j with
 | some i,some j=>(m'=m/\0<m/\0<=i/\i<=j/\j<=(cs.length/m:Nat))/\K (.o (.c (.q m ((cs.take (j.toNat*m)).drop (i.toNat*m))))) s
 | _,_=>False
theorem aNq {i j:Int} {m m':Nat} {cs:List QC} : Wm (some i) (some j) m m' cs s K=((m'=m/\0<m/\0<=i/\i<=j/\j<=(cs.length/m:Nat))/\K (.o (.c (.q m ((cs.take (j.toNat*m)).drop (i.toNat*m))))) s):=_root_.id rfl
def V6 (x:AV) (m:Nat) (lo hi:Option SA) (s:St) (K:AV->St->Prop):Prop:=
 match x with
 | .o (.c (.q m' cs))=>Wm (bO s lo 0) (bO s hi (cs.length/m:Nat)) m m' cs s K
 | _=>False
theorem U9 {m m':Nat} {cs:List QC} {lo hi:Option SA} : V6 (.o (.c (.q m' cs))) m lo hi s K=Wm (bO s lo 0) (bO s hi (cs.length/m:Nat)) m m' cs s K:=_root_.id rfl
theorem aFJ {m:Nat} {x:SA} {lo hi:Option SA} : aR sp d (.yA m x lo hi) s K=V6 (x.ev s) m lo hi s K:=by
 unfold aR
 simp only [aC]
 cases x.ev s with
 | t l=>rfl
 | io _ _ _=>rfl
 | o a=>
  cases a with
  | g cs=>rfl
  | c a=>
   cases a with
   | q m' cs=>
    rw [U9]
    dsimp only
    cases bO s lo 0 with
    | none=>rfl
    | some i=>
     cases bO s hi (cs.length/m:Nat) with
     | none=>rfl
     | some j=>exact jS
   | _=>rfl
def B1 (x i:AV) (m n:Nat) (s:St) (K:AV->St->Prop):Prop:=
 match x with
 | .o (.c (.p k off))=>Cr i fun j=>(0<=j/\j<n)/\K (.o (.c (.p k (off+j.toNat*m)))) s
 | _=>False
theorem aAA {i:AV} {m n k off:Nat} : B1 (.o (.c (.p k off))) i m n s K=Cr i fun j=>(0<=j/\j<n)/\K (.o (.c (.p k (off+j.toNat*m)))) s:=_root_.id rfl
theorem aIl {m n:Nat} {x i:SA} : aR sp d (.dN m n x i) s K=B1 (x.ev s) (i.ev s) m n s K:=by
 unfold aR
 simp only [aC]
 cases x.ev s with
 | t l=>rfl
 | io _ _ _=>rfl
 | o a=>
  cases a with
  | g cs=>rfl
  | c a=>
   cases a with
   | p k off=>
    rw [aAA]
    rcases Ut (i.ev s) with ⟨k,j,hi⟩ | ⟨hi,hv⟩
    ·rw [hi];exact jS
    ·rw [hi]
     split
     ·rename_i k j h1 h2;exact absurd h2 (hv _ _)
     ·rfl
   | _=>rfl
def aAd (x i:AV) (n:Nat) (s:St) (K:AV->St->Prop):Prop:=
 match x with
 | .o (.g cs)=>Cr i fun j=>(0<=j/\j<n)/\Jo cs[j.toNat]? s K
 | _=>False
theorem aSh {i:AV} {n:Nat} {cs:List AC} : aAd (.o (.g cs)) i n s K=Cr i fun j=>(0<=j/\j<n)/\Jo cs[j.toNat]? s K:=_root_.id rfl
theorem aGK {n:Nat} {x i:SA} : aR sp d (.Be n x i) s K=aAd (x.ev s) (i.ev s) n s K:=by
 unfold aR
 simp only [aC]
 cases x.ev s with
 | t l=>rfl
 | io _ _ _=>rfl
 | o a=>
  cases a with
  | c a=>rfl
  | g cs=>
   rw [aSh]
   dsimp only [AV.agg]
   rcases Ut (i.ev s) with ⟨k,j,hi⟩ | ⟨hi,hv⟩
   ·rw [hi,r8]
    dsimp only [AV.val]
    rw [wD]
    cases cs[j.toNat]? <;> rfl
   ·rw [hi]
    split
    ·rename_i k j h1 h2;exact absurd h2 (hv _ _)
    ·rfl
def Z7 (x:AV) (s:St) (K:AV->St->Prop):Prop:=
 match x with
 | .o (.c (.v (.int k a)))=>K (.o (.c (.v (.int k (cX .xor k (if k.signed then -1 else k.max) a))))) s
 | _=>False
theorem aRk {k:IntKind} {a:Int} : Z7 (.o (.c (.v (.int k a)))) s K=K (.o (.c (.v (.int k (cX .xor k (if k.signed then -1 else k.max) a))))) s:=_root_.id rfl
theorem aNI {x:SA} : aR sp d (.Ax x) s K=Z7 (x.ev s) s K:=by
 unfold aR
 simp only [aC]
 rcases Bq (x.ev s) with ⟨v,h⟩ | ⟨h,h'⟩
 ·rw [h];cases v<;>rfl
 ·rw [h]
  cases hx:x.ev s with
  | t l=>rfl
  | io _ _ _=>rfl
  | o a=>
   rw [hx] at h
   cases a with
   | g cs=>rfl
   | c a=>cases a<;>first | rfl | cases h
def Ry (os ls:Option (List AP)) (ρ : List (Nat×Nat)) (s:St) (K:AV->St->Prop):Prop:=
 match os,ls with
 | some outs,some l=>K (mP l) { s with mem:=iL ρ outs s.mem }
 | _,_=>False
theorem aMO {outs l:List AP} {ρ : List (Nat×Nat)} : Ry (some outs) (some l) ρ s K=K (mP l) { s with mem:=iL ρ outs s.mem } := _root_.id rfl
def qH (r:AV) (ρ : List (Nat×Nat)) (s:St) (K:AV->St->Prop):Prop:=
 match r with
 | .io ns outs l=>(ns = ρ.map (·.1)/\outs.length=ns.length/\lY s.mem ρ outs=true)/\Ry (eL ρ outs) (eL ρ l) ρ s K
 | _=>False
theorem I4 {ns:List Nat} {outs l:List AP} {ρ : List (Nat×Nat)} : qH (.io ns outs l) ρ s K=((ns = ρ.map (·.1)/\outs.length=ns.length/\lY s.mem ρ outs=true)/\Ry (eL ρ outs) (eL ρ l) ρ s K):=_root_.id rfl
theorem aQH {c:Prop} [Decidable c] {r r':AV} {ρ : List (Nat×Nat)} : qH (if c then r else r') ρ s K=(if c then qH r ρ s K else qH r' ρ s K):=by split<;>rfl
def mG (o:Option AV) (ρ : List (Nat×Nat)) (s:St) (K:AV->St->Prop):Prop:=
 match o with
 | some r=>qH r ρ s K
 | none=>False
theorem S3 {r:AV} {ρ : List (Nat×Nat)} : mG (some r) ρ s K=qH r ρ s K:=_root_.id rfl
theorem Yz {ρ : List (Nat×Nat)} : mG none ρ s K=False:=_root_.id rfl
theorem Fy {c:Prop} [Decidable c] {o:Option AV} {ρ : List (Nat×Nat)} : mG (if c then o else none) ρ s K=(c/\mG o ρ s K):=by
 by_cases h:c<;>simp [h,Yz]
theorem aCk {c:Prop} [Decidable c] {o o':Option AV} {ρ : List (Nat×Nat)} : mG (if c then o else o') ρ s K=(if c then mG o ρ s K else mG o' ρ s K):=by split<;>rfl
def Qq (aRR cs:Option (List AP)) (f:Nat) (ρ : List (Nat×Nat)) (sp:Spec) (s:St) (K:AV->St->Prop):Prop:=
 match aRR,cs with
 | some aRR,some cs=>mG (sp f (aRR.map AP.wk++cs)) ρ s K
 | _,_=>False
theorem U6 {aRR cs:List AP} {f:Nat} {ρ : List (Nat×Nat)} : Qq (some aRR) (some cs) f ρ sp s K=mG (sp f (aRR.map AP.wk++cs)) ρ s K:=_root_.id rfl
def S7 (aRR:Option (List AP)) (f:Nat) (ρ : List (Nat×Nat)) (sp:Spec) (s:St) (K:AV->St->Prop):Prop:=
 match aRR with
 | some aRR=>Qq (eL (swp ρ) aRR) (bG s.mem (swp ρ) ρ) f ρ sp s K
 | none=>False
theorem aAO {aRR:List AP} {f:Nat} {ρ : List (Nat×Nat)} : S7 (some aRR) f ρ sp s K=Qq (eL (swp ρ) aRR) (bG s.mem (swp ρ) ρ) f ρ sp s K:=_root_.id rfl
theorem aMZ {f:Nat} {args:List SA} {ρ : List (Nat×Nat)} : aR sp d (.aM f args ρ) s K=S7 (dC s args) f ρ sp s K:=by
 unfold aR
 simp only [aC]
 cases dC s args with
 | none=>rfl
 | some aRR=>
  rw [aAO]
  dsimp only
  cases eL (swp ρ) aRR with
  | none=>rfl
  | some as'=>
   cases bG s.mem (swp ρ) ρ with
   | none=>rfl
   | some cs=>
    rw [U6]
    dsimp only
    cases sp f (as'.map AP.wk++cs) with
    | none=>rfl
    | some r=>
     rw [S3]
     cases r with
     | o a=>rfl
     | t l=>rfl
     | io ns outs l=>
      rw [I4]
      dsimp only
      rw [wD]
      congr 1
      cases eL ρ outs with
      | none=>rfl
      | some o'=>cases eL ρ l<;>rfl
section
variable {ρ : List (Nat×Nat)} {α β γ δ : Type}
theorem aNQ {R:AV} : mG (s0 R []) ρ s K=qH R ρ s K:=_root_.id rfl
theorem aH8 {c1:Co α} {G : α -> Prop} [∀ x,Decidable (G x)] {R : α -> AV} {a:AP} : mG (s1 c1 G R [a]) ρ s K=(((c1.v a)/\G (c1.t a))/\qH (R (c1.t a)) ρ s K):=Fy
theorem aCN {c1:Co α} {c2:Co β} {G : α -> β -> Prop} [∀ x y,Decidable (G x y)] {R : α -> β -> AV} {a b:AP} : mG (s2 c1 c2 G R [a,b]) ρ s K=(((c1.v a/\c2.v b)/\G (c1.t a) (c2.t b))/\qH (R (c1.t a) (c2.t b)) ρ s K):=Fy
theorem aKb {c1:Co α} {c2:Co β} {c3:Co γ} {G : α -> β -> γ -> Prop} [∀ x y z,Decidable (G x y z)] {R : α -> β -> γ -> AV} {a b c:AP} : mG (s3 c1 c2 c3 G R [a,b,c]) ρ s K=(((c1.v a/\c2.v b/\c3.v c)/\G (c1.t a) (c2.t b) (c3.t c))/\qH (R (c1.t a) (c2.t b) (c3.t c)) ρ s K):=Fy
theorem aFH {c1:Co α} {c2:Co β} {c3:Co γ} {c4:Co δ} {G : α -> β -> γ -> δ -> Prop} [∀ x y z u,Decidable (G x y z u)] {R : α -> β -> γ -> δ -> AV} {a b c d:AP} : mG (s4 c1 c2 c3 c4 G R [a,b,c,d]) ρ s K=(((c1.v a/\c2.v b/\c3.v c/\c4.v d)/\G (c1.t a) (c2.t b) (c3.t c) (c4.t d))/\qH (R (c1.t a) (c2.t b) (c3.t c) (c4.t d)) ρ s K):=Fy
end
theorem aB3 {ρ : List (Nat×Nat)} {n off:Nat} : AC.gH ρ (.p n off)=(match cN ρ n with | some m=>some (.p m off)| none=>none):=_root_.id rfl
theorem aFo {ρ : List (Nat×Nat)} {x:Value} : AC.gH ρ (.v x)=some (.v x):=_root_.id rfl
theorem aLQ {ρ : List (Nat×Nat)} {x:Value} : AC.gH ρ (.k x)=some (.k x):=_root_.id rfl
theorem aQm {ρ : List (Nat×Nat)} {e:IntKind} {l:List Int} : AC.gH ρ (.r e l)=some (.r e l):=_root_.id rfl
theorem aMX {ρ : List (Nat×Nat)} {m:Nat} {cs:List QC} : AC.gH ρ (.q m cs)=some (.q m cs):=_root_.id rfl
theorem aD6 {ρ : List (Nat×Nat)} {cs:List QC} : AC.gH ρ (.kq cs)=some (.kq cs):=_root_.id rfl
theorem aFG {ρ : List (Nat×Nat)} {e:IntKind} : AC.gH ρ (.nil e)=some (.nil e):=_root_.id rfl
theorem aOC {ρ : List (Nat×Nat)} {f:Nat} {qs:List FC} : AC.gH ρ (.fn f qs)=if qs.all (·.Ia)=true then some (.fn f qs) else none:=_root_.id rfl
theorem aN1 {ρ : List (Nat×Nat)} {k:IntKind} : AC.gH ρ (.ik k)=some (.ik k):=_root_.id rfl
theorem aKU {ρ : List (Nat×Nat)} : AC.gH ρ .u=some .u:=_root_.id rfl
theorem aKY {mem:Nat->Option (List AC)} {σ : List (Nat×Nat)} {k n:Nat} {r:List (Nat×Nat)} : bG mem σ ((k,n)::r)=(match mem n,bG mem σ r with
 | some cs,some l=>(match jI σ cs with | some x=>some (.g x::l)| none=>none)
 | none,some l=>some (.c .u::l)
 | _,none=>none):=by
 simp only [bG]
 cases mem n<;>cases bG mem σ r<;>rfl
theorem aNg {mem:Nat->Option (List AC)} {k n:Nat} {r:List (Nat×Nat)} {x:List AC} {os:List AP} : lY mem ((k,n)::r) (.g x::os)=((decide (n<1000)||(mem n).isSome)&&lY mem r os):=_root_.id rfl
theorem aBE {mem:Nat->Option (List AC)} {k n:Nat} {r:List (Nat×Nat)} {x:AC} {os:List AP} : lY mem ((k,n)::r) (.c x::os)=lY mem r os:=by simp [lY]
theorem aRy {mem:Nat->Option (List AC)} {os:List AP} : lY mem [] os=true:=by cases os<;>rfl
theorem aJ9 {mem:Nat->Option (List AC)} {σ : List (Nat×Nat)} : bG mem σ []=some []:=_root_.id rfl
def rY (f:SF) (ns:List Nat) (cs:List AP) (ex:List (Nat×Nat)) (r:AV):AX->St->Prop
 | .n,s=>At f ns cs ex s=some r
 | .e _,_=>False
 | .r,s=>At f ns cs ex s=some r
theorem aCx {f:SF} {ns:List Nat} {cs:List AP} {ex:List (Nat×Nat)} {r:AV} : rY f ns cs ex r .n s=(At f ns cs ex s=some r):=_root_.id rfl
theorem aLI {f:SF} {ns:List Nat} {cs:List AP} {ex:List (Nat×Nat)} {r:AV} : rY f ns cs ex r .r s=(At f ns cs ex s=some r):=_root_.id rfl
end
section
variable {P:Program} {sp:Spec} {f:Nat} {sf:SF}
theorem Da {s:List AP->Option AV} (C:Code P sp f sf) (ns:List Nat) (ex:List (Nat×Nat)) (na:Nat) (hns:ns.all (fun n=>decide (1000<=n))=true) (he1:nodup (ex.map (·.1))=true) (he2:nodup (ex.map (·.2))=true) (he3:(ex.map (·.2)).all (fun n=>ns.contains n)=true) (hna:na<=sf.ntmps)
 (h : ∀ aRR r,s aRR=some r->aRR.length=na+ns.length/\(∃ outs l,r = .io ns outs l) /\ ∃ k,bY sp k sf.code (nQ (aRR.take na) ns (aRR.drop na)) (rY sf ns (aRR.drop na) ex r)):Ok P f s:=fun aRR r hr=>by
 obtain ⟨h1,⟨outs,l,rfl⟩,k,h2⟩:=h aRR r hr
 obtain ⟨fn,hf,hc⟩:=C.at_
 refine .inr (.inr (.inr ⟨C.ent,aRR.take na,aRR.drop na,ns,outs,l,(List.take_append_drop na aRR).symm,by rw [List.length_drop,h1];omega,rfl,?_⟩))
 refine aKJ ex k hf hc C.sp (by rw [List.length_take];omega) (fun n hn=>by simpa using List.all_eq_true.1 hns n hn) he1 he2 (fun n hn=>by simpa using List.all_eq_true.1 he3 n hn) ?_
 unfold Vb
 have h2:cO (bQ sp k sf.code (nQ (aRR.take na) ns (aRR.drop na))) (rY sf ns (aRR.drop na) ex (.io ns outs l)):=h2
 cases hcd:bQ sp k sf.code (nQ (aRR.take na) ns (aRR.drop na)) with
 | none=>rw [hcd] at h2;exact h2.elim
 | some x=>
  obtain ⟨ax,s'⟩:=x
  rw [hcd] at h2
  cases ax with
  | n=>exact h2
  | e i=>exact h2.elim
  | r=>exact h2
end
attribute [simp] aMB aEl aPD aMU aLc aOV aJO aKv aN5 aF6 aEg aNB aIG V2 aQY aL2 aAp aGx Pl aCj aM5 aFt r8 aJV aOG aNk aNq U9 aFJ aAA aIl aSh aGK aRk aNI aMO I4 aQH S3 Yz Fy aCk U6 aAO aMZ aNQ aH8 aCN aKb aFH aB3 aFo aLQ aQm aMX aD6 aFG aOC aN1 aKU aNg aBE aRy aKY aJ9 aCx aLI cN swp jI eL AP.gH iL lk At Dk Dc K8 nQ tK uY AC.fc AC.qc AC.pq FC.Ia FC.jA Oc pS Bi mB QC.ac AV.uB
end Go.VC
end
