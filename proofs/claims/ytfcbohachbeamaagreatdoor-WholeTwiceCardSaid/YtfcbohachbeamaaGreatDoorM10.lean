/- What the laws' code answers: part 10 of what the rows of this seat lean on. -/
import Derived.Test.YtfcbohachbeamaaGreatDoorM8
import Derived.Test.YtfcbohachbeamaaGreatDoorM9
import Derived.Test.YtfcbohachbeamaaGreatDoorM4
import Derived.Test.YtfcbohachbeamaaGreatDoorM5
set_option linter.unusedVariables false
set_option linter.unusedSimpArgs false
set_option maxHeartbeats 8000000
set_option maxRecDepth 100000
section
namespace Go.VC
def sv (l:List UInt8):Value:= .string ⟨l.toArray⟩
def vS:AP->Bool
 | .c (.v (.string _))=>true
 | _=>false
def tS:AP->List UInt8
 | .c (.v (.string b))=>b.data.toList
 | _=> []
theorem Uh (b:ByteArray):sv b.data.toList = .string b:=by
 cases b
 simp [sv]
def jQ:Co (List UInt8) where
 e l:= .c (.v (sv l))
 p _:=True
 v a:=vS a=true
 dv a:=inferInstance
 t:=tS
 some {a} h:=by
  unfold vS at h
  split at h
  ·exact ⟨by simp [tS,Uh],trivial⟩
  ·cases h
 enc {x} h:=⟨rfl,by simp [tS,sv]⟩
theorem aEo {b:ByteArray} : vS (.c (.v (.string b)))=true:=_root_.id rfl
theorem aQ4 {b:ByteArray} : tS (.c (.v (.string b)))=b.data.toList:=_root_.id rfl
theorem aCS {l:List UInt8} : jQ.e l = .c (.v (sv l)):=_root_.id rfl
theorem aMM {a:AP} : jQ.v a=(vS a=true):=_root_.id rfl
theorem aPy {a:AP} : jQ.t a=tS a:=_root_.id rfl
theorem aLY {l:List UInt8} : jQ.p l=True:=_root_.id rfl
def vR:AP->Bool
 | .g [.v (.string _)]=>true
 | _=>false
def tR:AP->List UInt8
 | .g [.v (.string b)]=>b.data.toList
 | _=> []
def pX:Co (List UInt8) where
 e l:= .g [.v (sv l)]
 p _:=True
 v a:=vR a=true
 dv a:=inferInstance
 t:=tR
 some {a} h:=by
  unfold vR at h
  split at h
  ·exact ⟨by simp [tR,Uh],trivial⟩
  ·cases h
 enc {x} h:=⟨rfl,by simp [tR,sv]⟩
theorem aDQ {b:ByteArray} : vR (.g [.v (.string b)])=true:=_root_.id rfl
theorem aRE {b:ByteArray} : tR (.g [.v (.string b)])=b.data.toList:=_root_.id rfl
theorem aNo {l:List UInt8} : pX.e l = .g [.v (sv l)]:=_root_.id rfl
theorem aMD {a:AP} : pX.v a=(vR a=true):=_root_.id rfl
theorem aQ5 {a:AP} : pX.t a=tR a:=_root_.id rfl
theorem aQ7 {l:List UInt8} : pX.p l=True:=_root_.id rfl
def Hv (n:Nat):AP->Bool
 | .c (.p m 0)=>decide (m=n)
 | _=>false
def cV (n:Nat):Co Unit where
 e _:= .c (.p n 0)
 p _:=True
 v a:=Hv n a=true
 dv a:=inferInstance
 t _:=()
 some {a} h:=by
  unfold Hv at h
  split at h
  ·have:=of_decide_eq_true h
   subst this
   exact ⟨rfl,trivial⟩
  ·cases h
 enc {x} h:=⟨by simp [Hv],rfl⟩
theorem aBR {n m:Nat} : (Hv n (.c (.p m 0))=true)=(m=n):=by simp [Hv]
theorem aLs {n:Nat} {x:Unit} : (cV n).e x = .c (.p n 0):=_root_.id rfl
theorem aNb {n:Nat} {a:AP} : (cV n).v a=(Hv n a=true):=_root_.id rfl
theorem aNd {n:Nat} {x:Unit} : (cV n).p x=True:=_root_.id rfl
def vF:AP->Bool
 | .c (.fn _ [])=>true
 | _=>false
def tF:AP->Nat
 | .c (.fn f [])=>f
 | _=>0
def Ch:Co Nat where
 e f:= .c (.fn f [])
 p _:=True
 v a:=vF a=true
 dv a:=inferInstance
 t:=tF
 some {a} h:=by
  unfold vF at h
  split at h
  ·exact ⟨rfl,trivial⟩
  ·cases h
 enc {x} h:=⟨rfl,rfl⟩
theorem aKi {f:Nat} : vF (.c (.fn f []))=true:=_root_.id rfl
theorem aNX {f:Nat} : tF (.c (.fn f []))=f:=_root_.id rfl
theorem aL3 {f:Nat} : Ch.e f = .c (.fn f []):=_root_.id rfl
theorem aCM {a:AP} : Ch.v a=(vF a=true):=_root_.id rfl
theorem aL7 {a:AP} : Ch.t a=tF a:=_root_.id rfl
theorem aEq {f:Nat} : Ch.p f=True:=_root_.id rfl
def Ho:AP->Bool
 | .c (.v (.int .u8 x))=>decide (0<=x/\x<256)
 | _=>false
def Dx:Co Int where
 e x:= .c (.v (.int .u8 x))
 p x:=0<=x/\x<256
 v a:=Ho a=true
 dv a:=inferInstance
 t:=tI
 some {a} h:=by
  unfold Ho at h
  split at h
  ·exact ⟨rfl,of_decide_eq_true h⟩
  ·cases h
 enc {x} h:=⟨by simpa [Ho] using h,rfl⟩
theorem aKs {x:Int} : (Ho (.c (.v (.int .u8 x)))=true)=(0<=x/\x<256):=by simp [Ho]
theorem aMF {x:Int} : tI (.c (.v (.int .u8 x)))=x:=_root_.id rfl
theorem aEv {x:Int} : Dx.e x = .c (.v (.int .u8 x)):=_root_.id rfl
theorem aDK {a:AP} : Dx.v a=(Ho a=true):=_root_.id rfl
theorem aHy {a:AP} : Dx.t a=tI a:=_root_.id rfl
theorem aMA {x:Int} : Dx.p x=(0<=x/\x<256):=_root_.id rfl
theorem aOF {l:List UInt8} : wC (.o (.c (.v (sv l))))=fun F=>F l:=by
 funext F
 simp [sv,wC]
theorem aNy {l:List UInt8} : vS (.c (.v (sv l)))=true:=_root_.id rfl
theorem aNZ {l:List UInt8} : tS (.c (.v (sv l)))=l:=by simp [sv,tS]
theorem aRf {l:List UInt8} : vR (.g [.v (sv l)])=true:=_root_.id rfl
theorem aGg {l:List UInt8} : tR (.g [.v (sv l)])=l:=by simp [sv,tR]
theorem aNF {l:List UInt8} : Value.string ⟨l.toArray⟩=sv l:=_root_.id rfl
theorem aD1 {ne:Bool} {a b:List UInt8} {s:St} {K:AV->St->Prop} : Vd ne (.o (.c (.v (sv a)))) (.o (.c (.v (sv b)))) s K=K (.o (.c (.v (.bool (if ne then !decide (a=b) else decide (a=b)))))) s:=by
 have h:((⟨a.toArray⟩:ByteArray).toList==(⟨b.toArray⟩:ByteArray).toList)=decide (a=b):=by
  rw [ByteArray.toList_mk,ByteArray.toList_mk]
  by_cases h:a=b<;>simp [h]
 show K _ s=_
 simp only [h]
attribute [simp] aEo aQ4 aCS aMM aPy aLY aDQ aRE aNo aMD aQ5 aQ7 aBR aLs aNb aNd aKi aNX aL3 aCM aL7 aEq aKs aMF aEv aDK aHy aMA aD1 aOF aNy aNZ aRf aGg aNF
end Go.VC
namespace Go.VC
section
variable {P:Program} {sp:Spec} {f:Nat} {sf:SF} {α β γ δ : Type} {c1:Co α} {c2:Co β} {c3:Co γ} {c4:Co δ}
theorem Hj {G : α -> β -> Prop} [∀ x y,Decidable (G x y)] {R : α -> β -> AV} (C:Code P sp f sf) (n:Nat) (ex:List (Nat×Nat)) (hns:1000<=n) (he1:nodup (ex.map (·.1))=true) (he2:nodup (ex.map (·.2))=true) (he3:(ex.map (·.2)).all (fun m=> [n].contains m)=true) (hna:1<=sf.ntmps)
 (h : ∀ x y,c1.p x->c2.p y->G x y->(∃ outs l,R x y = .io [n] outs l) /\ ∃ k,bY sp k sf.code (nQ [c1.e x] [n] [c2.e y]) (rY sf [n] [c2.e y] ex (R x y))):Ok P f (s2 c1 c2 G R):=
 Da C [n] ex 1 (by simpa using hns) he1 he2 he3 hna fun zs r hr=>by
  obtain ⟨x,y,rfl,h1,h2,hg,rfl⟩:=jF hr
  obtain ⟨g1,g2⟩:=h x y h1 h2 hg
  exact ⟨rfl,g1,g2⟩
theorem Wf {G : α -> β -> γ -> Prop} [∀ x y z,Decidable (G x y z)] {R : α -> β -> γ -> AV} (C:Code P sp f sf) (n:Nat) (ex:List (Nat×Nat)) (hns:1000<=n) (he1:nodup (ex.map (·.1))=true) (he2:nodup (ex.map (·.2))=true) (he3:(ex.map (·.2)).all (fun m=> [n].contains m)=true) (hna:2<=sf.ntmps)
 (h : ∀ x y z,c1.p x->c2.p y->c3.p z->G x y z->(∃ outs l,R x y z = .io [n] outs l) /\ ∃ k,bY sp k sf.code (nQ [c1.e x,c2.e y] [n] [c3.e z]) (rY sf [n] [c3.e z] ex (R x y z))):Ok P f (s3 c1 c2 c3 G R):=
 Da C [n] ex 2 (by simpa using hns) he1 he2 he3 hna fun zs r hr=>by
  obtain ⟨x,y,z,rfl,h1,h2,h3,hg,rfl⟩:=Jt hr
  obtain ⟨g1,g2⟩:=h x y z h1 h2 h3 hg
  exact ⟨rfl,g1,g2⟩
end
theorem Kk {P:Program} {f:Nat} {s:List AP->Option AV} (hent:Enters P f) (h : ∀ zs r,s zs=some r->r.uB=false /\ ∃ xs:List Value,zs=xs.map (fun x=> .c (.v x)) /\
 ∀ w,aZ w->Calls P f xs.toArray w fun e w'=> ∃ v,e = .returned v/\(∀ L:aY,r.rep L w' v)/\RowKit.Below w.heap.size w w'):Ok P f s:=fun zs r hr=>by
 obtain ⟨h1,xs,rfl,h2⟩:=h zs r hr
 refine .inl ⟨hent,h1,fun S w vs hS hG hrep=> ?_⟩
 have e:vs=xs:=by
  clear h2 hr
  induction xs generalizing vs with
  | nil=>cases vs with | nil=>rfl | cons _ _=>exact hrep.elim
  | cons x xs ih=>
   cases vs with
   | nil=>exact hrep.elim
   | cons v vs=>
    obtain ⟨hv,hr⟩:=hrep
    have hv:v=x/\_:=hv
    rw [hv.1,ih vs hr]
 subst e
 refine (h2 w hG).mono ?_
 rintro e w' ⟨v,rfl,h3,h4⟩
 exact ⟨v,rfl,h3 _,h4⟩
end Go.VC
namespace Go.Proofs.YtfcbohachbeamaaGreatDoor.E
open Go.VC Go.RowKit
abbrev gR (l:List UInt8):AP:= .c (.v (sv l))
def tr (l:List UInt8):List UInt8:=Lib.trimLeftS l [32,9]
abbrev aIQ:=s2 jQ jQ (fun _ y=>y = [32,9]) fun x _=> .o (gR (tr x))
theorem aHd:Ok Tryz.prog 242 aIQ:=Kk (enters Tryz.func242 (by kernel_rfl) (by kernel_rfl)) fun zs r hr=>by
 obtain ⟨x,y,rfl,-,-,rfl,rfl⟩:=jF hr
 refine ⟨rfl,[sv x,sv [32,9]],rfl,fun w _=> ?_⟩
 refine (Tryz.aO3 ⟨x.toArray⟩ ⟨[32,9].toArray⟩ w (by decide) (by
  intro j b hb
  have:b=32∨b=9:=by
   match j,hb with
   | 0,hb=>simp at hb;exact .inl hb.symm
   | 1,hb=>simp at hb;exact .inr hb.symm
   | j+2,hb=>simp at hb
  rcases this with rfl | rfl<;>decide)).mono ?_
 rintro e w' ⟨rfl,hb⟩
 exact ⟨_,rfl,fun L=>⟨rfl,rfl⟩,hb⟩
abbrev aLy:=s2 jQ jQ eO fun x y=> .o (bv (Lib.hasPrefix x y))
theorem aF9:Ok Tryz.prog 143 aLy:=Kk (enters Tryz.func143 (by kernel_rfl) (by kernel_rfl)) fun zs r hr=>by
 obtain ⟨x,y,rfl,-,-,-,rfl⟩:=jF hr
 refine ⟨rfl,[sv x,sv y],rfl,fun w _=> ?_⟩
 refine (Tryz.strings_HasPrefix ⟨x.toArray⟩ ⟨y.toArray⟩ w).mono ?_
 rintro e w' ⟨rfl,rfl⟩
 exact ⟨_,rfl,fun L=>⟨rfl,rfl⟩,.refl _ _⟩
abbrev As (l:List UInt8):List AP:= [.g [.v (sv l)]]
abbrev aIC:=s2 (cV 1000) pX eO fun _ l=> .io [1000] (As (tr l)) [bv (decide ((tr l).length<l.length))]
theorem Nt:Ok Tryz.prog 193 aIC:=Hj (aG Tryz.func193 Bn.ent Bn.aA (aB aHd aH)) 1000 [(1000,1000)] (by decide) (by decide) (by decide) (by decide) (by simp [Bn.c]) fun _ l _ _ _=>by
 refine ⟨⟨_,_,rfl⟩,0,?_⟩
 simp [Bn.c]
end Go.Proofs.YtfcbohachbeamaaGreatDoor.E
end
section
namespace Go.Proofs.YtfcbohachbeamaaGreatDoor.E
open Go.VC Go.RowKit
def sV (c:UInt8):Bool:=decide (48<=c.toNat/\c.toNat<=57)
def mU (c:UInt8):Bool:=decide (48<=c.toNat/\c.toNat<=57∨97<=c.toNat/\c.toNat<=102)
def lU (f:Nat) (c:UInt8):Bool:=if f=244 then sV c else mU c
abbrev aLB:=s1 Dx dX fun c=> .o (bv (decide (48<=c/\c<=57)))
abbrev aMi:=s1 Dx dX fun c=> .o (bv (decide (48<=c/\c<=57∨97<=c/\c<=102)))
theorem aGV:Ok Tryz.prog 244 aLB:=cA (aG Tryz.func244 Cz.ent Cz.aA aH) (by simp [Cz.c]) fun c hc _=>by
 refine ⟨0,?_⟩
 by_cases h1:48<=c<;>by_cases h2:c<=57<;>simp [Cz.c,h1,h2]
theorem aBz:Ok Tryz.prog 246 aMi:=cA (aG Tryz.func246 Fa.ent Fa.aA aH) (by simp [Fa.c]) fun c hc _=>by
 refine ⟨0,?_⟩
 by_cases h1:48<=c<;>by_cases h2:c<=57<;>by_cases h3:97<=c<;>by_cases h4:c<=102<;>simp [Fa.c,h1,h2,h3,h4]
theorem F1 {a:Int} {c:UInt8} : (a<(c.toNat:Int)) = ¬ (c.toNat:Int)<=a:=by simp
theorem Ix (c:UInt8):(0:Int)<=(c.toNat:Int)/\(c.toNat:Int)<256:=by have:=c.toNat_lt;omega
def okF (f:Nat):Prop:=f=244∨f=246
instance (f:Nat):Decidable (okF f):=inferInstanceAs (Decidable (_∨_))
def tk (f:Nat) (l:List UInt8):List UInt8:=l.takeWhile (lU f)
def dk (f:Nat) (l:List UInt8):List UInt8:=l.dropWhile (lU f)
theorem Mx (f:Nat) (l:List UInt8):tk f l++dk f l=l:=List.takeWhile_append_dropWhile
theorem M9 (f:Nat) (l:List UInt8):l.take (tk f l).length=tk f l:=by
 have:=List.take_left (l₁ := tk f l) (l₂ := dk f l)
 rwa [Mx] at this
theorem V5 (f:Nat) (l:List UInt8):l.drop (tk f l).length=dk f l:=by
 have:=List.drop_left (l₁ := tk f l) (l₂ := dk f l)
 rwa [Mx] at this
theorem Zp (f:Nat) (l:List UInt8):(tk f l).length<=l.length:=by
 have:=congrArg List.length (Mx f l)
 rw [List.length_append] at this
 omega
theorem aJR {f:Nat} {l:List UInt8} {i:Nat} (h:i<(tk f l).length):lU f (l.getD i 0)=true:=by
 have h2:i<l.length:=Nat.lt_of_lt_of_le h (Zp f l)
 have h3:(tk f l)[i]∈tk f l:=List.getElem_mem h
 have h4:(tk f l)[i]? = l[i]? := by
  conv=>lhs;rw [← M9 f l]
  rw [List.getElem?_take,if_pos h]
 have h5:l.getD i 0=(tk f l)[i]:=by
  rw [List.getD_eq_getElem?_getD,← h4,List.getElem?_eq_getElem h];rfl
 rw [h5]
 exact List.all_eq_true.1 (List.all_takeWhile (p:=lU f) (l:=l)) _ h3
theorem aLm {f:Nat} {l:List UInt8} (h:(tk f l).length<l.length):lU f (l.getD (tk f l).length 0)=false:=by
 have e:l.drop (tk f l).length=dk f l:=V5 f l
 have h1:l.getD (tk f l).length 0=(dk f l).getD 0 0:=by
  rw [← e];simp [List.getD_eq_getElem?_getD]
 have h2:dk f l ≠ []:=fun h0=>by
  have:=congrArg List.length e
  rw [h0,List.length_drop] at this
  simp at this;omega
 rw [h1]
 cases hd:dk f l with
 | nil=>exact absurd hd h2
 | cons c r=>
  have:=List.head?_dropWhile_not (lU f) l
  unfold dk at hd
  rw [hd] at this
  simpa using this
abbrev aNm:=s3 (cV 1000) Ch pX (fun _ f l=>okF f/\l.length<=1000000) fun _ f l=> .io [1000] (As (dk f l)) [gR (tk f l)]
theorem P6:Ok Tryz.prog 243 aNm:=Wf (aG Tryz.func243 qL.ent qL.aA (aB aGV (aB aBz aH))) 1000 [(1000,1000)] (by decide) (by decide) (by decide) (by decide) (by simp [qL.c]) fun _ f l _ _ _ hg=>by
 obtain ⟨hf,hlen⟩:=hg
 refine ⟨⟨_,_,rfl⟩,(tk f l).length+1,?_⟩
 have hle:=Zp f l
 have ht:=M9 f l
 have hd:=V5 f l
 have hm:(-0x8000000000000000:Int)<=((tk f l).length:Int)/\((tk f l).length:Int)<0x8000000000000000:=by omega
 simp only [qL.c,fL,fC,fJ,fG]
 simp
 refine iO (fun i s=>s.tm 0 = .o (.c (.p 1000 0))/\s.tm 1 = .o (.c (.fn f []))/\s.tm 5 = .o (.c (.v (.int .i64 (i:Int))))/\s.mem 1000=some [.v (sv l)]) (tk f l).length ?_ ?_ _ _ (by omega) ?_
 ·rintro i s hi ⟨t0,t1,t5,m0⟩
  have h1:(i:Int)<(l.length:Int):=by omega
  have w:IntKind.i64.wrap ((i:Int)+1)=(i:Int)+1:=aD (by omega) (by omega)
  have hb:=aJR hi
  have u:=Ix (l.getD i 0)
  have h1n:i<l.length:=by omega
  have h1m : ¬ l.length<=i:=by omega
  rcases hf with rfl | rfl<;>simp [-List.getD_eq_getElem?_getD,lU,sV,mU] at hb <;>
   generalize hx:l.getD i 0=x at hb u ⊢ <;>
   by_cases a1:(48:Int)<=(x.toNat:Int)<;>by_cases a2:(x.toNat:Int)<=57<;>by_cases a3:(97:Int)<=(x.toNat:Int)<;>by_cases a4:(x.toNat:Int)<=102 <;>
   first |(exfalso;omega)| simp [-Int.not_le,-List.getD_eq_getElem?_getD,qL.l1,t0,t1,t5,m0,h1,h1n,h1m,w,u,F1,a1,a2,a3,a4,hx]
 ·rintro s ⟨t0,t1,t5,m0⟩
  by_cases h1:(tk f l).length<l.length
  ·have hb:=aLm h1
   have u:=Ix (l.getD (tk f l).length 0)
   have h1':((tk f l).length:Int)<(l.length:Int):=by omega
   have h1m : ¬ l.length<=(tk f l).length:=by omega
   rcases hf with rfl | rfl<;>simp [-List.getD_eq_getElem?_getD,lU,sV,mU] at hb <;>
    generalize hx:(l.getD (tk _ l).length 0)=x at hb u ⊢ <;>
    by_cases a1:(48:Int)<=(x.toNat:Int)<;>by_cases a2:(x.toNat:Int)<=57<;>by_cases a3:(97:Int)<=(x.toNat:Int)<;>by_cases a4:(x.toNat:Int)<=102 <;>
    first |(exfalso;omega)| simp [-Int.not_le,-List.getD_eq_getElem?_getD,qL.l1,t0,t1,t5,m0,h1,h1',h1m,u,F1,a1,a2,a3,a4,hx,hle,ht,hd]
  ·have h2 : ¬ ((tk f l).length:Int)<(l.length:Int):=by omega
   have h3:l.length<=(tk f l).length:=by omega
   simp [qL.l1,t0,t1,t5,m0,h1,h2,h3,hle,ht,hd]
 ·simp
abbrev fD:Nat:=244
abbrev fH:Nat:=246
def mY (w:List UInt8):Int:=(Lib.atoi w).getD 0
def iY (w:List UInt8):Prop:=w ≠ []/\w.length<=18/\(w.getD 0 0=48->w = [48])
instance (w:List UInt8):Decidable (iY w):=inferInstanceAs (Decidable (_/\_/\_))
theorem aAu : ∀ (l:List UInt8) (acc:Nat),l.all sV=true -> ∃ n,Lib.decFrom acc l=some n/\n<(acc+1)*10 ^ l.length
 | [],acc,_=>⟨acc,rfl,by simp⟩
 | b::r,acc,h=>by
  simp only [List.all_cons,Bool.and_eq_true] at h
  have hb:48<=b.toNat/\b.toNat<=57:=by simpa [sV] using h.1
  obtain ⟨n,h1,h2⟩:=aAu r (acc*10+(b.toNat-48)) h.2
  refine ⟨n,by simp [Lib.decFrom,Lib.digitVal,hb,h1],Nat.lt_of_lt_of_le h2 ?_⟩
  rw [List.length_cons,Nat.pow_succ,Nat.mul_comm (10 ^ r.length) 10,← Nat.mul_assoc]
  exact Nat.mul_le_mul_right _ (by omega)
theorem Yh {w:List UInt8} (h0:w ≠ []) (h:w.all sV=true) : ∃ n:Nat,Lib.atoi w=some (n:Int)/\n<10 ^ w.length:=by
 cases w with
 | nil=>exact absurd rfl h0
 | cons b r=>
  have hb:48<=b.toNat/\b.toNat<=57:=by
   simp only [List.all_cons,Bool.and_eq_true] at h
   simpa [sV] using h.1
  obtain ⟨n,h1,h2⟩:=aAu (b::r) 0 h
  have c1:(b==45)=false:=by
   apply Bool.eq_false_iff.2
   intro e;have:=beq_iff_eq.1 e;subst this;exact absurd hb.1 (by decide)
  have c2:(b==43)=false:=by
   apply Bool.eq_false_iff.2
   intro e;have:=beq_iff_eq.1 e;subst this;exact absurd hb.1 (by decide)
  exact ⟨n,by simp [Lib.atoi,c1,c2,Lib.decNat,h1],by simpa using h2⟩
theorem aBd (l:List UInt8):(tk fD l).all sV=true:=by
 have:lU fD=sV:=by funext c;simp [lU]
 rw [tk,this]
 exact List.all_takeWhile
theorem aEy {n:Nat} (h:n<=18):10 ^ n<=0xde0b6b3a7640000:=by
 have:=Nat.pow_le_pow_right (show 0<10 by decide) h
 simpa using this
theorem yT {l:List UInt8} (h:iY (tk fD l)):0<=mY (tk fD l)/\mY (tk fD l)<0xde0b6b3a7640000:=by
 obtain ⟨n,h1,h2⟩:=Yh h.1 (aBd l)
 have:=aEy h.2.1
 simp only [mY,h1,Option.getD_some]
 omega
abbrev aER:=s1 jQ (fun x=>x.length<=18/\(Lib.atoi x).isSome=true) fun x=> .t [iv .i64 (mY x),.c (.v .nilIface)]
theorem aEx:Ok Tryz.prog 245 aER:=Kk (enters Tryz.func245 (by kernel_rfl) (by kernel_rfl)) fun zs r hr=>by
 obtain ⟨x,rfl,-,hg,rfl⟩:=pO hr
 obtain ⟨n,hn⟩:=Option.isSome_iff_exists.1 hg.2
 refine ⟨rfl,[sv x],rfl,fun w _=> ?_⟩
 refine (Tryz.strconv_Atoi ⟨x.toArray⟩ n hg.1 (by simpa using hn) w).mono ?_
 rintro e w' ⟨rfl,t,rfl⟩
 refine ⟨_,rfl,fun L=>⟨[.int .i64 n,.nilIface],rfl,⟨by simp [mY,hn],rfl⟩,⟨rfl,rfl⟩,trivial⟩,⟨rfl,rfl,rfl,by rw [Lib.bytesWorld_size];omega,fun k hk=>Lib.bytesWorld_at_old w 5 t k hk⟩⟩
abbrev aN2:=s2 (cV 1000) pX (fun _ l=>l.length<=1000000) fun _ l=> .io [1000] (As (dk fD l)) (if iY (tk fD l) then [iv .i64 (mY (tk fD l)),bv true] else [iv .i64 0,bv false])
theorem C8:Ok Tryz.prog 194 aN2:=Hj (aG Tryz.func194 rX.ent rX.aA (aB P6 (aB aEx aH))) 1000 [(1000,1000)] (by decide) (by decide) (by decide) (by decide) (by simp [rX.c]) fun _ l _ _ hg=>by
 refine ⟨⟨_,_,rfl⟩,0,?_⟩
 have hf:okF fD:= .inl rfl
 have hall:=aBd l
 have hrng:= @yT l
 generalize hw:tk fD l=w at hall hrng ⊢
 cases w with
 | nil=>simp [rX.c,hw,hg,hf,iY]
 | cons c r=>
  have u:=Ix c
  by_cases h2:(c::r).length<=18
  ·obtain ⟨n,a1,a2⟩:=Yh (by simp) hall
   have h2' : ¬ (18:Int)<((c::r).length:Int):=by omega
   have h2a:(r.length:Int)+1<=18:=by simp at h2;omega
   have h2b:r.length<=17:=by omega
   by_cases h3:c=48
   ·by_cases h4:r = []
    ·have ho:iY (c::r):=⟨by simp,h2,fun _=>by rw [h3,h4]⟩
     subst h3 h4
     simp [rX.c,hw,hg,hf,ho,a1]
    ·have ho : ¬ iY (c::r):=fun h=>h4 (by have:=h.2.2 h3;simpa using (List.cons.inj this).2)
     subst h3
     simp [rX.c,hw,hg,hf,ho,a1,h2,h2',h2a,h2b,h4]
   ·have ho:iY (c::r):=⟨by simp,h2,fun h=>absurd h h3⟩
    have h5 : ¬ (c.toNat:Int)=48:=fun h=>h3 (by
     have:c.toNat=48:=by omega
     exact UInt8.toNat_inj.1 this)
    simp [rX.c,hw,hg,hf,ho,a1,h2,h2',h2a,h2b,h5]
  ·have ho : ¬ iY (c::r):=fun h=>h2 h.2.1
   have h2':(18:Int)<((c::r).length:Int):=by omega
   have h2a : ¬ (r.length:Int)+1<=18:=by simp at h2;omega
   simp [rX.c,hw,hg,hf,ho,h2',h2a]
abbrev aLv:=s2 (cV 1000) pX eO fun _ l=> .io [1000] (As (tr l)) [bv (decide (tr l = []))]
theorem Sa:Ok Tryz.prog 146 aLv:=Hj (aG Tryz.func146 Fc.ent Fc.aA (aB Nt aH)) 1000 [(1000,1000)] (by decide) (by decide) (by decide) (by decide) (by simp [Fc.c]) fun _ l _ _ _=>by
 refine ⟨⟨_,_,rfl⟩,0,?_⟩
 simp [Fc.c]
abbrev ln (k a b:Int) (ws:List Int):List AC:= .v (.int .i64 k) :: .v (.int .i64 a) :: .v (.int .i64 b)::ws.map fun w=> .v (.int .u32 w)
abbrev jC:List Int:= [0,0,0,0,0]
theorem Uw (l:List UInt8):(tr l).length<=l.length:=by
 unfold tr Lib.trimLeftS
 have:=congrArg List.length (List.takeWhile_append_dropWhile (p:=fun c=> [32,9].contains c) (l:=l))
 rw [List.length_append] at this
 omega
theorem H4 (f:Nat) (l:List UInt8):(dk f l).length<=l.length:=by
 have:=congrArg List.length (Mx f l)
 rw [List.length_append] at this
 omega
def one? (l:List UInt8):Prop:=(tr l).length<l.length/\iY (tk fD (tr l))/\tr (dk fD (tr l)) = []
instance (l:List UInt8):Decidable (one? l):=inferInstanceAs (Decidable (_/\_/\_))
def Gi (l:List UInt8):List UInt8:=if (tr l).length<l.length/\iY (tk fD (tr l)) then tr (dk fD (tr l)) else dk fD (tr l)
abbrev aPM:=s3 (cV 1000) bF pX (fun _ k l=>l.length<=1000000) fun _ k l=> .io [1000] (As (Gi l)) (if one? l then [.g (ln k (mY (tk fD (tr l))) 0 jC),bv true] else [.g (ln 0 0 0 jC),bv false])
theorem aN9:Ok Tryz.prog 144 aPM:=Wf (aG Tryz.func144 rU.ent rU.aA (aB Nt (aB C8 (aB Sa aH)))) 1000 [(1000,1000)] (by decide) (by decide) (by decide) (by decide) (by simp [rU.c]) fun _ k l _ hk _ hg=>by
 refine ⟨⟨_,_,rfl⟩,0,?_⟩
 simp at hk
 have h1:=Uw l
 have h0:(tr l).length<=1000000:=by omega
 by_cases c1:(tr l).length<l.length
 ·by_cases c2:iY (tk fD (tr l))
  ·have hr:=yT c2
   by_cases c3:tr (dk fD (tr l)) = []<;>simp [rU.c,h0,one?,Gi,c1,c2,c3]
  ·simp [rU.c,h0,one?,Gi,c1,c2]
 ·by_cases c2:iY (tk fD (tr l))<;>simp [rU.c,h0,one?,Gi,c1,c2]
def mD (l:List UInt8):List UInt8:=dk fD l
def iK (l:List UInt8):List UInt8:=tr (mD l)
def mI (l:List UInt8):List UInt8:=dk fD (iK l)
def kR (l:List UInt8):List UInt8:=tr (mI l)
def data? (l:List UInt8):Prop:=iY (tk fD l)/\(iK l).length<(mD l).length/\iY (tk fD (iK l))/\(kR l = []∨(kR l).length<(mI l).length/\(kR l).getD 0 0=35)
instance (l:List UInt8):Decidable (data? l):=inferInstanceAs (Decidable (_/\_/\_/\(_∨_/\_)))
abbrev aDF:=s2 (cV 1000) pX (fun _ l=>l.length<=1000000) fun _ l=> .io [1000] (As (kR l)) (if data? l then [.g (ln 5 (mY (tk fD l)) (mY (tk fD (iK l))) jC),bv true] else [.g (ln 0 0 0 jC),bv false])
theorem aBA:Ok Tryz.prog 147 aDF:=Hj (aG Tryz.func147 lC.ent lC.aA (aB Nt (aB C8 aH))) 1000 [(1000,1000)] (by decide) (by decide) (by decide) (by decide) (by simp [lC.c]) fun _ l _ _ hg=>by
 refine ⟨⟨_,_,rfl⟩,0,?_⟩
 have h1:=H4 fD l
 have h2:=Uw (dk fD l)
 have g2:(tr (dk fD l)).length<=1000000:=by omega
 have hr1:= @yT l
 have hr2:= @yT (iK l)
 simp only [iK,mD] at hr2
 by_cases c1:iY (tk fD l)
 ·by_cases c2:(tr (dk fD l)).length<(dk fD l).length
  ·by_cases c3:iY (tk fD (tr (dk fD l)))
   ·cases h4:tr (dk fD (tr (dk fD l))) with
    | nil=>simp [lC.c,hg,g2,data?,mD,iK,mI,kR,c1,c2,c3,h4]
    | cons c r=>
     have u:=Ix c
     by_cases c5:r.length+1<(dk fD (tr (dk fD l))).length
     ·by_cases c6:c=35
      ·subst c6
       simp [lC.c,hg,g2,data?,mD,iK,mI,kR,c1,c2,c3,h4,c5]
      ·have c7 : ¬ (c.toNat:Int)=35:=fun h=>c6 (by
        have:c.toNat=35:=by omega
        exact UInt8.toNat_inj.1 this)
       simp [lC.c,hg,g2,data?,mD,iK,mI,kR,c1,c2,c3,h4,c5,c6,c7]
     ·simp [lC.c,hg,g2,data?,mD,iK,mI,kR,c1,c2,c3,h4,c5]
   ·simp [lC.c,hg,g2,data?,mD,iK,mI,kR,c1,c2,c3]
  ·by_cases c3:iY (tk fD (tr (dk fD l)))<;>simp [lC.c,hg,g2,data?,mD,iK,mI,kR,c1,c2,c3]
 ·by_cases c2:(tr (dk fD l)).length<(dk fD l).length<;>by_cases c3:iY (tk fD (tr (dk fD l)))<;>simp [lC.c,hg,g2,data?,mD,iK,mI,kR,c1,c2,c3]
theorem Kq {n:Int} (h1:0<=n) (h2:n<4294967296):IntKind.u32.wrap n=n:=by rw [IntKind.wrap_u32];omega
theorem rK {n:Int} (h1:0<=n) (h2:n<0x10000000000000000):IntKind.u64.wrap n=n:=by rw [IntKind.wrap_u64];omega
theorem Kv {n:Int} (h1:0<=n) (h2:n<256):IntKind.u8.wrap n=n:=by rw [IntKind.wrap_u8];omega
def nZ (c:UInt8):Int:=if c.toNat<=57 then (c.toNat:Int)-48 else (c.toNat:Int)-87
def sD (a:Int):List UInt8->Int
 | []=>a
 | c::r=>sD (a*16+nZ c) r
def cW (l:List UInt8):Int:=sD 0 l
theorem w9 : ∀ (l r:List UInt8) (a:Int),sD a (l++r)=sD (sD a l) r
 | [],r,a=>rfl
 | c::l,r,a=>w9 l r (a*16+nZ c)
theorem R7 {c:UInt8} (h:mU c=true):0<=nZ c/\nZ c<16:=by
 have:48<=c.toNat/\c.toNat<=57∨97<=c.toNat/\c.toNat<=102:=by simpa [mU] using h
 unfold nZ
 split<;>omega
theorem A9 : ∀ (l:List UInt8) (a:Int),l.all mU=true->0<=a->0<=sD a l/\sD a l<(a+1)*16 ^ l.length
 | [],a,_,h=>by simp [sD];omega
 | c::r,a,h,h0=>by
  simp only [List.all_cons,Bool.and_eq_true] at h
  have hd:=R7 h.1
  obtain ⟨h1,h2⟩:=A9 r (a*16+nZ c) h.2 (by omega)
  refine ⟨h1,Int.lt_of_lt_of_le h2 ?_⟩
  rw [List.length_cons,Int.pow_succ,Int.mul_comm (16 ^ r.length) 16,← Int.mul_assoc]
  exact Int.mul_le_mul_of_nonneg_right (by omega) (Int.pow_nonneg (by decide))
theorem aOO {n:Nat} (h:n<=8):(16:Int) ^ n<=4294967296:=by
 have:=Nat.pow_le_pow_right (show 0<16 by decide) h
 have h2:(16:Int) ^ n=((16 ^ n:Nat):Int):=by simp
 rw [h2];omega
theorem Bt {l:List UInt8} (h:l.all mU=true) (hl:l.length<=8):0<=cW l/\cW l<4294967296:=by
 obtain ⟨h1,h2⟩:=A9 l 0 h (by decide)
 have:=aOO hl
 simp at h2
 exact ⟨h1,by unfold cW;omega⟩
theorem aMe {l:List UInt8} {i:Nat} (h:i<l.length):cW (l.take (i+1))=cW (l.take i)*16+nZ (l.getD i 0):=by
 rw [List.take_add_one,List.getElem?_eq_getElem h]
 unfold cW
 rw [w9]
 simp [sD,List.getD_eq_getElem?_getD,List.getElem?_eq_getElem h]
theorem aFc (l:List UInt8) (i:Nat):(l.map fun c=>(c.toNat:Int)).getD i 0=((l.getD i 0).toNat:Int):=by
 simp only [List.getD_eq_getElem?_getD,List.getElem?_map]
 cases l[i]? <;> rfl
abbrev aFy:=s1 Dx (fun c=>97<=c/\c<=102) fun c=> .o (.c (.v (.int .u8 c)))
theorem aP7:Ok Tryz.prog 284 aFy:=cA (aG Tryz.func284 Fh.ent Fh.aA aH) (by simp [Fh.c]) fun c _ hc=>by
 refine ⟨0,?_⟩
 have:c=97∨c=98∨c=99∨c=100∨c=101∨c=102:=by omega
 rcases this with rfl | rfl | rfl | rfl | rfl | rfl<;>simp [Fh.c]<;>decide
abbrev tPU:=s3 jQ bF bF (fun x b n=>b=16/\n=32/\x ≠ []/\x.length<=8/\x.all mU=true) fun x _ _=> .t [iv .u64 (cW x),.c (.v .nilIface)]
theorem aK3:Ok Tryz.prog 267 tPU:=yK (aG Tryz.func267 qF.ent qF.aA (aB aP7 aH)) (by simp [qF.c]) fun x b n _ _ _ hg=>by
 obtain ⟨rfl,rfl,h0,h8,hall⟩:=hg
 refine ⟨x.length+1,?_⟩
 have hm:(-0x8000000000000000:Int)<=(x.length:Int)/\(x.length:Int)<0x8000000000000000:=by omega
 have hr:=Bt hall h8
 simp only [qF.c,fL,fC,fJ,fG]
 have w32:IntKind.u64.wrap 32=32:=by decide
 simp [h0,hm,w32]
 refine iO (fun i s=>s.tm 1 = .o (iv .i64 16)/\s.tm 8 = .o (bv false)/\s.tm 10 = .o (iv .u64 0x1000000000000000)/\s.tm 11 = .o (iv .u64 4294967295)/\s.tm 12 = .o (bv false)/\s.tm 13 = .o (iv .u64 (cW (x.take i)))/\s.tm 99 = .o (.c (.r .u8 (x.map fun c=>(c.toNat:Int))))/\s.tm 100 = .o (iv .i64 x.length)/\s.tm 101 = .o (iv .i64 i)) x.length ?_ ?_ _ _ (by omega) ?_
 ·rintro i s hi ⟨t1,t8,t10,t11,t12,t13,t99,t100,t101⟩
  have h1:(i:Int)<(x.length:Int):=by omega
  have w:IntKind.i64.wrap ((i:Int)+1)=(i:Int)+1:=aD (by omega) (by omega)
  have hv:=aMe hi
  have hc:mU (x.getD i 0)=true:=by
   rw [List.getD_eq_getElem?_getD,List.getElem?_eq_getElem hi]
   exact List.all_eq_true.1 hall _ (List.getElem_mem hi)
  have hd:=R7 hc
  have hall' : ∀ j,(x.take j).all mU=true:=fun j=>by
   rw [List.all_eq_true] at hall ⊢
   exact fun c hc=>hall c (List.mem_of_mem_take hc)
  have r1:=Bt (hall' (i+1)) (by rw [List.length_take];omega)
  have r0:=Bt (hall' i) (by rw [List.length_take];omega)
  have u:=Ix (x.getD i 0)
  have hc':48<=(x.getD i 0).toNat/\(x.getD i 0).toNat<=57∨97<=(x.getD i 0).toNat/\(x.getD i 0).toNat<=102:=by simpa [mU,-List.getD_eq_getElem?_getD] using hc
  generalize hx:x.getD i 0=c at hv hc hd u hc'
  have hx':=aFc x i
  rw [hx] at hx'
  rcases hc' with ⟨a1,a2⟩ | ⟨a1,a2⟩
  ·have hh:nZ c=(c.toNat:Int)-48:=by simp [nZ,a2]
   have b1:(48:Int)<=(c.toNat:Int):=by omega
   have b2:(c.toNat:Int)<=57:=by omega
   have b3 : ¬ (c.toNat:Int)=95:=by omega
   have w16:IntKind.u8.wrap 16=16:=by decide
   have w16':IntKind.u64.wrap 16=16:=by decide
   have e2:IntKind.u64.wrap (cW (x.take i)*16)=cW (x.take i)*16:=rK (by omega) (by omega)
   have e1:IntKind.u8.wrap ((c.toNat:Int)-48)=(c.toNat:Int)-48:=Kv (by omega) (by omega)
   have e3 : ¬ 16<=(c.toNat:Int)-48:=by omega
   have e4:IntKind.u64.wrap ((c.toNat:Int)-48)=(c.toNat:Int)-48:=rK (by omega) (by omega)
   have e5:IntKind.u64.wrap (cW (x.take i)*16+((c.toNat:Int)-48))=cW (x.take (i+1)):=by rw [hv,hh];exact rK (by omega) (by omega)
   have e6 : ¬ cW (x.take (i+1))<cW (x.take i)*16:=by omega
   have e7 : ¬ 4294967295<cW (x.take (i+1)):=by omega
   have e8 : ¬ 0x1000000000000000<=cW (x.take i):=by omega
   have r1':0<=cW (x.take (i+1))/\cW (x.take (i+1))<0x10000000000000000:=by omega
   simp [-List.getD_eq_getElem?_getD,qF.l1,t1,t8,t10,t11,t12,t13,t99,t100,t101,h1,hi,w,hx',b1,b2,b3,w16,w16',e1,e2,e3,e4,e5,e6,e7,e8]
  ·have hh:nZ c=(c.toNat:Int)-87:=by have : ¬ c.toNat<=57:=by omega
                                     simp [nZ,this]
   have b1:(48:Int)<=(c.toNat:Int):=by omega
   have b2 : ¬ (c.toNat:Int)<=57:=by omega
   have b3 : ¬ (c.toNat:Int)=95:=by omega
   have b4:(97:Int)<=(c.toNat:Int):=by omega
   have b5:(c.toNat:Int)<=102:=by omega
   have b6:(c.toNat:Int)<=122:=by omega
   have w16:IntKind.u8.wrap 16=16:=by decide
   have w16':IntKind.u64.wrap 16=16:=by decide
   have e2:IntKind.u64.wrap (cW (x.take i)*16)=cW (x.take i)*16:=rK (by omega) (by omega)
   have e0:IntKind.u8.wrap ((c.toNat:Int)-97)=(c.toNat:Int)-97:=Kv (by omega) (by omega)
   have e1:IntKind.u8.wrap ((c.toNat:Int)-97+10)=(c.toNat:Int)-87:=by rw [Kv (by omega) (by omega)];omega
   have e3 : ¬ 16<=(c.toNat:Int)-87:=by omega
   have e4:IntKind.u64.wrap ((c.toNat:Int)-87)=(c.toNat:Int)-87:=rK (by omega) (by omega)
   have e5:IntKind.u64.wrap (cW (x.take i)*16+((c.toNat:Int)-87))=cW (x.take (i+1)):=by rw [hv,hh];exact rK (by omega) (by omega)
   have e6 : ¬ cW (x.take (i+1))<cW (x.take i)*16:=by omega
   have e7 : ¬ 4294967295<cW (x.take (i+1)):=by omega
   have e8 : ¬ 0x1000000000000000<=cW (x.take i):=by omega
   simp [-List.getD_eq_getElem?_getD,qF.l1,t1,t8,t10,t11,t12,t13,t99,t100,t101,h1,hi,w,hx',b1,b2,b3,b4,b5,b6,w16,w16',e0,e1,e2,e3,e4,e5,e6,e7,e8,u]
 ·rintro s ⟨t1,t8,t10,t11,t12,t13,t99,t100,t101⟩
  simp [qF.l1,t1,t8,t10,t11,t12,t13,t99,t100,t101,hr]
 ·simp [cW,sD]
  decide
abbrev aRa:=s3 jQ bF bF (fun x b n=>b=16/\n=32/\x ≠ []/\x.length<=8/\x.all mU=true) fun x _ _=> .t [iv .u64 (cW x),.c (.v .nilIface)]
theorem aFx:Ok Tryz.prog 247 aRa:=yK (aG Tryz.func247 Dh.ent Dh.aA (aB aK3 aH)) (by simp [Dh.c]) fun x b n _ _ _ hg=>by
 obtain ⟨rfl,rfl,h0,h8,hall⟩:=hg
 have hr:=Bt hall h8
 refine ⟨0,?_⟩
 simp [Dh.c,h0,h8,hall,hr]
def okW (w:List UInt8):Prop:=w ≠ []/\w.length<=8
instance (w:List UInt8):Decidable (okW w):=inferInstanceAs (Decidable (_/\_))
theorem Rx (l:List UInt8):(tk fH l).all mU=true:=by
 have:lU fH=mU:=by funext c;simp [lU,show ¬ fH=fD by decide]
 rw [tk,this]
 exact List.all_takeWhile
abbrev aFC:=s2 (cV 1000) pX (fun _ l=>l.length<=1000000) fun _ l=> .io [1000] (As (dk fH l)) (if okW (tk fH l) then [iv .u32 (cW (tk fH l)),bv true] else [iv .u32 0,bv false])
theorem aGh:Ok Tryz.prog 195 aFC:=Hj (aG Tryz.func195 yJ.ent yJ.aA (aB P6 (aB aFx aH))) 1000 [(1000,1000)] (by decide) (by decide) (by decide) (by decide) (by simp [yJ.c]) fun _ l _ _ hg=>by
 refine ⟨⟨_,_,rfl⟩,0,?_⟩
 have hf:okF fH:= .inr rfl
 have hall:=Rx l
 generalize hw:tk fH l=w at hall ⊢
 cases w with
 | nil=>simp [yJ.c,hw,hg,hf,okW]
 | cons c r=>
  by_cases h2:(c::r).length<=8
  ·have hr:=Bt hall h2
   have ho:okW (c::r):=⟨by simp,h2⟩
   have h2' : ¬ (8:Int)<((c::r).length:Int):=by omega
   have h2a:(r.length:Int)+1<=8:=by simp at h2;omega
   have h2b:r.length<=7:=by omega
   have hw32:IntKind.u32.wrap (cW (c::r))=cW (c::r):=Kq hr.1 hr.2
   simp only [List.all_cons,Bool.and_eq_true] at hall
   simp [yJ.c,hw,hg,hf,ho,h2,h2',h2a,h2b,hr,hall,hw32]
  ·have ho : ¬ okW (c::r):=fun h=>h2 h.2
   have h2':(8:Int)<((c::r).length:Int):=by omega
   have h2a:(8:Int)<(r.length:Int)+1:=by simp at h2;omega
   simp [yJ.c,hw,hg,hf,ho,h2',h2a]
def jD (l:List UInt8):Prop:=(tr l).length<l.length/\okW (tk fH (tr l))
instance (l:List UInt8):Decidable (jD l):=inferInstanceAs (Decidable (_/\_))
def hR:Nat->List UInt8->List UInt8
 | 0,l=>l
 | n+1,l=>if jD l then hR n (dk fH (tr l)) else dk fH (tr l)
def hK:Nat->List UInt8->Bool
 | 0,_=>true
 | n+1,l=>decide (jD l)&&hK n (dk fH (tr l))
def gL:Nat->List UInt8->List Int
 | 0,_=> []
 | n+1,l=>cW (tk fH (tr l))::gL n (dk fH (tr l))
theorem mN {n:Nat} {l:List Int} (h:l.length=n+1) : ∃ a r,l=a::r/\r.length=n:=by
 cases l with
 | nil=>cases h
 | cons a r=>exact ⟨a,r,rfl,Nat.succ.inj h⟩
abbrev Mc (l:List UInt8):List UInt8:=if hK 5 l=true then tr (hR 5 l) else hR 5 l
abbrev Pq (l:List UInt8):List AP:=if hK 5 l=true/\tr (hR 5 l) = [] then [.g (ln 4 0 0 (gL 5 l)),bv true] else [.g (ln 0 0 0 jC),bv false]
abbrev aMf:=s2 (cV 1000) pX (fun _ l=>l.length<=1000000) fun _ l=> .io [1000] (As (Mc l)) (Pq l)
theorem aP0:Ok Tryz.prog 145 aMf:=Hj (aG Tryz.func145 fM.ent fM.aA (aB Nt (aB aGh (aB Sa aH)))) 1000 [(1000,1000)] (by decide) (by decide) (by decide) (by decide) (by simp [fM.c]) fun _ l _ _ hg=>by
 refine ⟨⟨_,_,rfl⟩,6,?_⟩
 simp only [fM.c,fL,fC,fJ,fG,Mc,Pq]
 generalize e1:hK 5 l=K5
 generalize e2:hR 5 l=R5
 generalize e3:gL 5 l=W5
 simp
 refine lL (fun m s=> ∃ l' ws,l'.length<=1000000/\m<=5/\ws.length=5-m/\K5=hK m l'/\R5=hR m l'/\W5=ws++gL m l'/\s.tm 0 = .o (.c (.p 1000 0))/\s.tm 2 = .o (.c (.p 2 0))/\s.tm 4 = .o (.c (.p 4 0))/\s.tm 10 = .o (iv .i64 ((5-m:Nat):Int))/\s.mem 1000=some [.v (sv l')]/\s.mem 2=some (ln 0 0 0 jC)/\s.mem 4=some (ln 4 0 0 (ws++List.replicate m 0))) ?_ 6 5 _ (by decide) ?_
 ·rintro m s ⟨l',ws,hl,hm,hw,k1,k2,k3,t0,t2,t4,t10,m0,m2,m4⟩
  have q1:=Uw l'
  have q2:=H4 fH (tr l')
  have q0:(tr l').length<=1000000:=by omega
  have q3:(dk fH (tr l')).length<=1000000:=by omega
  have hz:okW (tk fH (tr l'))->0<=cW (tk fH (tr l'))/\cW (tk fH (tr l'))<4294967296:=fun h=>Bt (Rx _) h.2
  rcases m with _ | _ | _ | _ | _ | _ | m
  ·have hw:ws.length=4+1:=hw
   obtain ⟨a,wa,ea,hw⟩:=mN hw
   obtain ⟨b,wb,eb,hw⟩:=mN hw
   obtain ⟨c,wc,ec,hw⟩:=mN hw
   obtain ⟨d,wd,ed,hw⟩:=mN hw
   obtain ⟨e,we,ee,hw⟩:=mN hw
   have e0:we = []:=List.eq_nil_of_length_eq_zero hw
   subst e0 ee ed ec eb ea
   simp only [hK,hR,gL,List.append_nil] at k1 k2 k3
   by_cases c1:tr l' = []<;>simp [-List.append_assoc,fM.l1,t0,t2,t4,t10,m0,m2,m4,k1,k2,k3,c1]
  ·have hw:ws.length=3+1:=hw
   obtain ⟨a,wa,ea,hw⟩:=mN hw
   obtain ⟨b,wb,eb,hw⟩:=mN hw
   obtain ⟨c,wc,ec,hw⟩:=mN hw
   obtain ⟨d,wd,ed,hw⟩:=mN hw
   have e0:wd = []:=List.eq_nil_of_length_eq_zero hw
   subst e0 ed ec eb ea
   simp only [hK,hR,gL] at k1 k2 k3
   by_cases c1:(tr l').length<l'.length
   ·by_cases c2:okW (tk fH (tr l'))
    ·have c3:jD l':=⟨c1,c2⟩
     have z:=hz c2
     simp only [c3,decide_true,Bool.true_and,if_true] at k1 k2
     simp [fM.l1,t0,t2,t4,t10,m0,m2,m4,q0,q3,c1,c2,z]
     exact ⟨dk fH (tr l'),q3,[a,b,c,d,cW (tk fH (tr l'))],rfl,k1,k2,by rw [k3];rfl,by decide,rfl,rfl⟩
    ·have c3 : ¬ jD l':=fun h=>c2 h.2
     simp only [c3,decide_false,Bool.false_and,if_false] at k1 k2
     simp [fM.l1,t0,t2,t4,t10,m0,m2,m4,q0,q3,c1,c2,k1,k2]
   ·have c3 : ¬ jD l':=fun h=>c1 h.1
    simp only [c3,decide_false,Bool.false_and,if_false] at k1 k2
    by_cases c2:okW (tk fH (tr l')) <;>
     simp [fM.l1,t0,t2,t4,t10,m0,m2,m4,q0,q3,c1,c2,k1,k2]
  ·have hw:ws.length=2+1:=hw
   obtain ⟨a,wa,ea,hw⟩:=mN hw
   obtain ⟨b,wb,eb,hw⟩:=mN hw
   obtain ⟨c,wc,ec,hw⟩:=mN hw
   have e0:wc = []:=List.eq_nil_of_length_eq_zero hw
   subst e0 ec eb ea
   simp only [hK,hR,gL] at k1 k2 k3
   by_cases c1:(tr l').length<l'.length
   ·by_cases c2:okW (tk fH (tr l'))
    ·have c3:jD l':=⟨c1,c2⟩
     have z:=hz c2
     simp only [c3,decide_true,Bool.true_and,if_true] at k1 k2
     simp [fM.l1,t0,t2,t4,t10,m0,m2,m4,q0,q3,c1,c2,z]
     exact ⟨1,by decide,dk fH (tr l'),q3,by decide,[a,b,c,cW (tk fH (tr l'))],rfl,k1,k2,by rw [k3];rfl,by decide,rfl,rfl⟩
    ·have c3 : ¬ jD l':=fun h=>c2 h.2
     simp only [c3,decide_false,Bool.false_and,if_false] at k1 k2
     simp [fM.l1,t0,t2,t4,t10,m0,m2,m4,q0,q3,c1,c2,k1,k2]
   ·have c3 : ¬ jD l':=fun h=>c1 h.1
    simp only [c3,decide_false,Bool.false_and,if_false] at k1 k2
    by_cases c2:okW (tk fH (tr l')) <;>
     simp [fM.l1,t0,t2,t4,t10,m0,m2,m4,q0,q3,c1,c2,k1,k2]
  ·have hw:ws.length=1+1:=hw
   obtain ⟨a,wa,ea,hw⟩:=mN hw
   obtain ⟨b,wb,eb,hw⟩:=mN hw
   have e0:wb = []:=List.eq_nil_of_length_eq_zero hw
   subst e0 eb ea
   simp only [hK,hR,gL] at k1 k2 k3
   by_cases c1:(tr l').length<l'.length
   ·by_cases c2:okW (tk fH (tr l'))
    ·have c3:jD l':=⟨c1,c2⟩
     have z:=hz c2
     simp only [c3,decide_true,Bool.true_and,if_true] at k1 k2
     simp [fM.l1,t0,t2,t4,t10,m0,m2,m4,q0,q3,c1,c2,z]
     exact ⟨2,by decide,dk fH (tr l'),q3,by decide,[a,b,cW (tk fH (tr l'))],rfl,k1,k2,by rw [k3];rfl,by decide,rfl,rfl⟩
    ·have c3 : ¬ jD l':=fun h=>c2 h.2
     simp only [c3,decide_false,Bool.false_and,if_false] at k1 k2
     simp [fM.l1,t0,t2,t4,t10,m0,m2,m4,q0,q3,c1,c2,k1,k2]
   ·have c3 : ¬ jD l':=fun h=>c1 h.1
    simp only [c3,decide_false,Bool.false_and,if_false] at k1 k2
    by_cases c2:okW (tk fH (tr l')) <;>
     simp [fM.l1,t0,t2,t4,t10,m0,m2,m4,q0,q3,c1,c2,k1,k2]
  ·have hw:ws.length=0+1:=hw
   obtain ⟨a,wa,ea,hw⟩:=mN hw
   have e0:wa = []:=List.eq_nil_of_length_eq_zero hw
   subst e0 ea
   simp only [hK,hR,gL] at k1 k2 k3
   by_cases c1:(tr l').length<l'.length
   ·by_cases c2:okW (tk fH (tr l'))
    ·have c3:jD l':=⟨c1,c2⟩
     have z:=hz c2
     simp only [c3,decide_true,Bool.true_and,if_true] at k1 k2
     simp [fM.l1,t0,t2,t4,t10,m0,m2,m4,q0,q3,c1,c2,z]
     exact ⟨3,by decide,dk fH (tr l'),q3,by decide,[a,cW (tk fH (tr l'))],rfl,k1,k2,by rw [k3];rfl,by decide,rfl,rfl⟩
    ·have c3 : ¬ jD l':=fun h=>c2 h.2
     simp only [c3,decide_false,Bool.false_and,if_false] at k1 k2
     simp [fM.l1,t0,t2,t4,t10,m0,m2,m4,q0,q3,c1,c2,k1,k2]
   ·have c3 : ¬ jD l':=fun h=>c1 h.1
    simp only [c3,decide_false,Bool.false_and,if_false] at k1 k2
    by_cases c2:okW (tk fH (tr l')) <;>
     simp [fM.l1,t0,t2,t4,t10,m0,m2,m4,q0,q3,c1,c2,k1,k2]
  ·have hw:ws.length=0:=hw
   have e0:ws = []:=List.eq_nil_of_length_eq_zero hw
   subst e0
   simp only [hK,hR,gL] at k1 k2 k3
   by_cases c1:(tr l').length<l'.length
   ·by_cases c2:okW (tk fH (tr l'))
    ·have c3:jD l':=⟨c1,c2⟩
     have z:=hz c2
     simp only [c3,decide_true,Bool.true_and,if_true] at k1 k2
     simp [fM.l1,t0,t2,t4,t10,m0,m2,m4,q0,q3,c1,c2,z]
     exact ⟨4,by decide,dk fH (tr l'),q3,by decide,[cW (tk fH (tr l'))],rfl,k1,k2,by rw [k3];rfl,by decide,rfl,rfl⟩
    ·have c3 : ¬ jD l':=fun h=>c2 h.2
     simp only [c3,decide_false,Bool.false_and,if_false] at k1 k2
     simp [fM.l1,t0,t2,t4,t10,m0,m2,m4,q0,q3,c1,c2,k1,k2]
   ·have c3 : ¬ jD l':=fun h=>c1 h.1
    simp only [c3,decide_false,Bool.false_and,if_false] at k1 k2
    by_cases c2:okW (tk fH (tr l')) <;>
     simp [fM.l1,t0,t2,t4,t10,m0,m2,m4,q0,q3,c1,c2,k1,k2]
  ·omega
 ·exact ⟨l,[],hg,by decide,rfl,e1.symm,e2.symm,e3.symm,by simp,by simp,by simp,by simp,by simp,by simp,by simp⟩
abbrev Ln:=Int×Int×Int×List Int
def tO (k:Int) (r:List UInt8):Option Ln:=if one? r then some (k,mY (tk fD (tr r)),0,jC) else none
def Hc (r:List UInt8):Option Ln:=if hK 5 r=true/\tr (hR 5 r) = [] then some (4,0,0,gL 5 r) else none
def Ko (l:List UInt8):Option Ln:=if data? l then some (5,mY (tk fD l),mY (tk fD (iK l)),jC) else none
def bB (l:List UInt8):Option Ln:=
 if Lib.hasPrefix l [35,36]=true then tO 2 (l.drop 2)
 else if Lib.hasPrefix l [35,64]=true then tO 3 (l.drop 2)
 else if Lib.hasPrefix l [35,104]=true then Hc (l.drop 2)
 else if Lib.hasPrefix l [35]=true∨tr l = [] then some (1,0,0,jC) else Ko l
def nT:Option Ln->AV
 | some (k,a,b,ws)=> .t [.g (ln k a b ws),bv true]
 | none=> .t [.g (ln 0 0 0 jC),bv false]
theorem Sb {l p:List UInt8} (h:Lib.hasPrefix l p=true):p.length<=l.length:=by
 have h2:p <+: l:=List.isPrefixOf_iff_prefix.1 h
 exact h2.length_le
abbrev Ug:=s1 jQ (fun l=>l.length<=1000000) fun l=>nT (bB l)
theorem aJk:Ok Tryz.prog 113 Ug:=cA (aG Tryz.func113 mZ.ent mZ.aA (aB aF9 (aB aN9 (aB aP0 (aB Sa (aB aBA aH)))))) (by simp [mZ.c]) fun l _ hg=>by
 refine ⟨0,?_⟩
 have q2:l.length<=1000002:=by omega
 by_cases p1:Lib.hasPrefix l [35,36]=true
 ·have q:=Sb p1
  have q1:(2:Int)<=(l.length:Int):=by simp at q;omega
  by_cases c:one? (l.drop 2)<;>simp [mZ.c,p1,bB,tO,nT,c,q1,q2]
 ·by_cases p2:Lib.hasPrefix l [35,64]=true
  ·have q:=Sb p2
   have q1:(2:Int)<=(l.length:Int):=by simp at q;omega
   by_cases c:one? (l.drop 2)<;>simp [mZ.c,p1,p2,bB,tO,nT,c,q1,q2]
  ·by_cases p3:Lib.hasPrefix l [35,104]=true
   ·have q:=Sb p3
    have q1:(2:Int)<=(l.length:Int):=by simp at q;omega
    have hw : ∃ a b c d e,gL 5 (l.drop 2) = [a,b,c,d,e]:=⟨_,_,_,_,_,rfl⟩
    obtain ⟨a,b,c,d,e,hw⟩:=hw
    by_cases c1:hK 5 (l.drop 2)=true/\tr (hR 5 (l.drop 2)) = []
    ·simp only [mZ.c,p1,p2,p3,bB,Hc,nT,c1,if_true,hw]
     generalize hE:Mc (l.drop 2)=E
     simp [p1,p2,p3,q1,q2,Pq,c1,hw,hE]
    ·simp only [mZ.c,p1,p2,p3,bB,Hc,nT,c1,if_false]
     generalize hE:Mc (l.drop 2)=E
     simp [p1,p2,p3,q1,q2,Pq,c1,hE]
   ·by_cases p4:Lib.hasPrefix l [35]=true
    ·simp [mZ.c,p1,p2,p3,p4,bB,nT]
    ·by_cases p5:tr l = []
     ·simp [mZ.c,p1,p2,p3,p4,p5,bB,nT]
     ·by_cases c:data? l<;>simp [mZ.c,p1,p2,p3,p4,p5,bB,Ko,nT,c,hg]
abbrev aPo:=s2 jQ jQ (fun x y=>x.length<=1000000/\y = [10]) fun x y=> .t [gR (Lib.cut x y).1,gR (Lib.cut x y).2.1,bv (Lib.cut x y).2.2]
theorem aJJ:Ok Tryz.prog 112 aPo:=Kk (enters Tryz.func112 (by kernel_rfl) (by kernel_rfl)) fun zs r hr=>by
 obtain ⟨x,y,rfl,-,-,hg,rfl⟩:=jF hr
 obtain ⟨hg,rfl⟩:=hg
 refine ⟨rfl,[sv x,sv [10]],rfl,fun w G=> ?_⟩
 obtain ⟨m,hm⟩:=G.cell
 refine (Tryz.strings_Cut ⟨x.toArray⟩ ⟨[10].toArray⟩ m w (by show x.toArray.size<_;simp;omega) hm).mono ?_
 rintro e w' ⟨rfl,n,rfl⟩
 exact ⟨_,rfl,fun L=>⟨[sv (Lib.cut x [10]).1,sv (Lib.cut x [10]).2.1,.bool (Lib.cut x [10]).2.2],rfl,⟨rfl,rfl⟩,⟨rfl,rfl⟩,⟨rfl,rfl⟩,trivial⟩,⟨rfl,rfl,rfl,Nat.le_refl _,fun _ _=>rfl⟩⟩
def bT:List UInt8->List (List UInt8)
 | []=> []
 | c::r=>if c=10 then []::bT r else match bT r with
  | []=> [[c]]
  | x::xs=>(c::x)::xs
theorem Qj : ∀ (l:List UInt8),l ≠ []->bT l=(Lib.cut l [10]).1::bT (Lib.cut l [10]).2.1/\(Lib.cut l [10]).2.1.length<l.length
 | [],h=>absurd rfl h
 | c::r,_=>by
  by_cases hc:c=10
  ·subst hc
   have e:Lib.cut (10::r) [10]=([],r,true):=by simp [Lib.cut,Lib.index]
   rw [e]
   simp [bT]
  ·have hp:([10]:List UInt8).isPrefixOf (c::r)=false:=by
    have:((10:UInt8)==c)=false:=beq_eq_false_iff_ne.2 (Ne.symm hc)
    simp [List.isPrefixOf,this]
   have hi:Lib.index (c::r) [10]=if Lib.index r [10] == -1 then -1 else Lib.index r [10]+1:=by rw [Lib.index,hp];rfl
   have ge:=Lib.index_ge r [10]
   by_cases h1:Lib.index r [10] = -1
   ·have e:Lib.cut (c::r) [10]=(c::r,[],false):=by simp [Lib.cut,hi,h1]
    rw [e]
    by_cases hr:r = []
    ·subst hr;simp [bT,hc]
    ·obtain ⟨i1,i2⟩:=Qj r hr
     have e2:Lib.cut r [10]=(r,[],false):=by simp [Lib.cut,h1]
     rw [e2] at i1
     simp [bT,hc,i1]
   ·have h2:0<=Lib.index r [10]:=by omega
    have hr:r ≠ []:=by
     rintro rfl
     exact absurd h2 (by decide)
    obtain ⟨i1,i2⟩:=Qj r hr
    have h3:0<=Lib.index r [10]+1:=by omega
    have e2:Lib.cut r [10]=(r.take (Lib.index r [10]).toNat,r.drop ((Lib.index r [10]).toNat+1),true):=by simp [Lib.cut,h2]
    have e3:(Lib.index r [10]+1).toNat=(Lib.index r [10]).toNat+1:=by omega
    have e:Lib.cut (c::r) [10]=(c::r.take (Lib.index r [10]).toNat,r.drop ((Lib.index r [10]).toNat+1),true):=by
     simp only [Lib.cut,hi,beq_iff_eq,h1,if_false,h3,if_true,e3]
     simp
    rw [e2] at i1 i2
    rw [e]
    refine ⟨by simp [bT,hc,i1],by simp only [List.length_cons];simp only at i2;omega⟩
def cS (l:List (List UInt8)):List AC:=l.map fun x=> .v (sv x)
def qS (l:List (List UInt8)):List QC:=l.map fun x=> .v (sv x)
theorem aGu (l:List (List UInt8)) (x:List UInt8):cS l ++ [.v (sv x)]=cS (l ++ [x]):=by simp [cS]
theorem Cu (l:List (List UInt8)):(cS l).length=l.length:=by simp [cS]
theorem B8 : ∀ (l:List (List UInt8)),pL (cS l)=some (qS l)
 | []=>rfl
 | x::l=>by
  have:=B8 l
  simp only [cS,qS,List.map_cons,pL] at this ⊢
  rw [this]
theorem T6 (l:List (List UInt8)):fS ⟨9,1,none⟩ l.length (cS l) = .q 1 (qS l):=by
 have h:(cS l).take (l.length*1)=cS l:=List.take_of_length_le (by rw [Cu];omega)
 unfold fS
 rw [h,B8,Cu,if_pos (show l.length*1<=l.length by omega)]
theorem Oy (ns:List Nat) (l:List (List UInt8)):(cS l).map (fun x=>AC.kill ns x)=cS l:=by simp [cS,AC.kill]
theorem Xk (l:List (List UInt8)):(cS l).take l.length=cS l:=List.take_of_length_le (by rw [Cu];omega)
def Cm (l:List (List UInt8)):AP:=if l = [] then .c (.r .u8 []) else .c (.q 1 (qS l))
abbrev Tg:=s1 jQ (fun l=>l.length<=1000000) fun l=> .o (Cm (bT l))
theorem aQM:Ok Tryz.prog 81 Tg:=cA (aG Tryz.func81 nC.ent nC.aA (aB aJJ aH)) (by simp [nC.c]) fun l _ hg=>by
 refine ⟨l.length+1,?_⟩
 simp only [nC.c,fL,fC,fJ,fG]
 simp
 refine lL (fun m s=> ∃ r out,m=r.length/\r.length<=1000000/\out.length+r.length<=1000000/\bT l=out++bT r/\s.tm 0 = .o (gR r)/\s.mem 17=none /\
  ((out = []/\s.tm 3 = .o (.c (.nil .u8))/\s.mem 18=none)∨(out ≠ []/\s.tm 3 = .o (.c (.s ⟨9,1,none⟩ 18 out.length))/\s.mem 18=some (cS out)))) ?_ _ l.length _ (by omega) ?_
 ·rintro m s ⟨r,out,rfl,hr,ho,hl,t0,m17,hrow⟩
  by_cases h0:r = []
  ·subst h0
   simp only [bT,List.append_nil] at hl
   rcases hrow with ⟨h1,t3,m18⟩ | ⟨h1,t3,m18⟩
   ·subst h1
    simp [nC.l1,t0,t3,m17,m18,hl,Cm]
   ·simp [nC.l1,t0,t3,m17,m18,hl,Cm,h1,Cu,T6]
  ·obtain ⟨c1,c2⟩:=Qj r h0
   rcases hrow with ⟨h1,t3,m18⟩ | ⟨h1,t3,m18⟩
   ·subst h1
    simp [nC.l1,t0,t3,m17,m18,h0,hr]
    exact ⟨_,c2,(Lib.cut r [10]).2.1,rfl,by omega,[(Lib.cut r [10]).1],by simp;omega,by rw [hl,c1];rfl,rfl,by simp,rfl,rfl⟩
   ·simp [nC.l1,t0,t3,m17,m18,h0,hr,h1,Cu,Oy,Xk]
    exact ⟨by omega,_,c2,(Lib.cut r [10]).2.1,rfl,by omega,out ++ [(Lib.cut r [10]).1],by simp;omega,by rw [hl,c1];simp,rfl,by simp,by simp,aGu _ _⟩
 ·exact ⟨l,[],rfl,hg,by simpa using hg,rfl,by simp,by simp,.inl ⟨rfl,by simp,by simp⟩⟩
end Go.Proofs.YtfcbohachbeamaaGreatDoor.E
end
section
namespace Go.VC
def lF (k:IntKind):AP->Bool
 | .c (.v (.int k' x))=>decide (k'=k)&&decide (0<=x/\x<4294967296)
 | _=>false
def wG:AP->Nat
 | .c (.v (.int _ x))=>x.toNat
 | _=>0
def mR (k:IntKind):Co Nat where
 e x:= .c (.v (.int k (x:Int)))
 p x:=x<4294967296
 v a:=lF k a=true
 dv a:=inferInstance
 t:=wG
 some {a} h:=by
  unfold lF at h
  split at h
  ·rename_i k' x
   simp only [Bool.and_eq_true,decide_eq_true_eq] at h
   obtain ⟨rfl,h⟩:=h
   refine ⟨?_,by show x.toNat<_;omega⟩
   show AP.c (.v (.int k' x))=AP.c (.v (.int k' ((x.toNat:Nat):Int)))
   rw [Int.toNat_of_nonneg h.1]
  ·cases h
 enc {x} h:=⟨by show (decide (k=k)&&decide (0<=(x:Int)/\(x:Int)<4294967296))=true;simp;omega,by show (x:Int).toNat=x;simp⟩
theorem aAr {k k':IntKind} {x:Int} : (lF k (.c (.v (.int k' x)))=true)=(k'=k/\0<=x/\x<4294967296):=by simp [lF]
theorem aBS {k:IntKind} {x:Int} : wG (.c (.v (.int k x)))=x.toNat:=_root_.id rfl
theorem aKl {k:IntKind} {x:Nat} : (mR k).e x = .c (.v (.int k (x:Int))):=_root_.id rfl
theorem aOo {k:IntKind} {a:AP} : (mR k).v a=(lF k a=true):=_root_.id rfl
theorem aKQ {k:IntKind} {a:AP} : (mR k).t a=wG a:=_root_.id rfl
theorem z7 {k:IntKind} {x:Nat} : (mR k).p x=(x<4294967296):=_root_.id rfl
attribute [simp] aAr aBS aKl aOo aKQ z7
theorem aPI (n a:Nat):BitVec.ofInt n (a:Int)=BitVec.ofNat n a:=by
 apply BitVec.eq_of_toNat_eq
 rw [BitVec.toNat_ofInt,BitVec.toNat_ofNat]
 omega
theorem Nv {k:IntKind} (hk:k = .u32∨k = .i64) {x:Nat} (h:x<4294967296):k.wrap (x:Int)=(x:Int):=by
 rcases hk with rfl | rfl
 ·rw [IntKind.wrap_u32];omega
 ·rw [IntKind.wrap_i64];omega
theorem Ci {k:IntKind} (hk:k = .u32∨k = .i64) {x:Nat} (h:x<4294967296):(BitVec.ofInt k.bits (x:Int)).toNat=x:=by
 rw [aPI,BitVec.toNat_ofNat]
 rcases hk with rfl | rfl
 ·exact Nat.mod_eq_of_lt h
 ·exact Nat.mod_eq_of_lt (Nat.lt_of_lt_of_le h (by decide))
theorem uM {k:IntKind} (hk:k = .u32∨k = .i64) {a b:Nat} (ha:a<4294967296) (hb:b<4294967296):cX .and k (a:Int) (b:Int)=((a &&& b:Nat):Int):=by
 show k.wrap ((BitVec.ofInt k.bits (a:Int) &&& BitVec.ofInt k.bits (b:Int)).toNat:Nat)=_
 rw [BitVec.toNat_and,Ci hk ha,Ci hk hb]
 exact Nv hk (Nat.lt_of_le_of_lt Nat.and_le_left ha)
theorem wH {k:IntKind} (hk:k = .u32∨k = .i64) {a b:Nat} (ha:a<4294967296) (hb:b<4294967296):cX .or k (a:Int) (b:Int)=((a ||| b:Nat):Int):=by
 show k.wrap ((BitVec.ofInt k.bits (a:Int)||| BitVec.ofInt k.bits (b:Int)).toNat:Nat)=_
 rw [BitVec.toNat_or,Ci hk ha,Ci hk hb]
 exact Nv hk (Nat.or_lt_two_pow (n:=32) ha hb)
theorem qC {k:IntKind} (hk:k = .u32∨k = .i64) {a b:Nat} (ha:a<4294967296) (hb:b<4294967296):cX .xor k (a:Int) (b:Int)=((a ^^^ b:Nat):Int):=by
 show k.wrap ((BitVec.ofInt k.bits (a:Int) ^^^ BitVec.ofInt k.bits (b:Int)).toNat:Nat)=_
 rw [BitVec.toNat_xor,Ci hk ha,Ci hk hb]
 exact Nv hk (Nat.xor_lt_two_pow (n:=32) ha hb)
theorem aCJ {a:Nat} (ha:a<4294967296):cX .xor .u32 4294967295 (a:Int)=((4294967295-a:Nat):Int):=by
 show IntKind.u32.wrap ((BitVec.ofInt 32 4294967295 ^^^ BitVec.ofInt 32 (a:Int)).toNat:Nat)=_
 have e:BitVec.ofInt 32 4294967295=BitVec.allOnes 32:=by decide
 have h:=Ci (k:= .u32) (.inl rfl) ha
 have h:(BitVec.ofInt 32 (a:Int)).toNat=a:=h
 rw [e,BitVec.allOnes_xor,BitVec.toNat_not,h]
 exact Nv (.inl rfl) (x:=4294967295-a) (by omega)
theorem aLR {x y:Nat} (hx:x<4294967296) (hy:y<4294967296) (h:x &&& y=0):x ||| y=x+y:=by
 have e:=BitVec.add_eq_or_of_and_eq_zero (BitVec.ofNat 64 x) (BitVec.ofNat 64 y) (by
  apply BitVec.eq_of_toNat_eq
  rw [BitVec.toNat_and,BitVec.toNat_ofNat,BitVec.toNat_ofNat,Nat.mod_eq_of_lt (by omega),Nat.mod_eq_of_lt (by omega),h]
  rfl)
 have e:=congrArg BitVec.toNat e
 rw [BitVec.toNat_add,BitVec.toNat_or,BitVec.toNat_ofNat,BitVec.toNat_ofNat,Nat.mod_eq_of_lt (show x<2 ^ 64 by omega),Nat.mod_eq_of_lt (show y<2 ^ 64 by omega),Nat.mod_eq_of_lt (by omega)] at e
 exact e.symm
theorem j9 {b c d:Nat} (hb:b<4294967296) (hc:c<4294967296) (hd:d<4294967296):(b &&& c)||| ((4294967295-b) &&& d)=(b &&& c)+((4294967295-b) &&& d):=by
 have h1:b &&& c<4294967296:=Nat.lt_of_le_of_lt Nat.and_le_left hb
 have h2:(4294967295-b) &&& d<4294967296:=Nat.lt_of_le_of_lt Nat.and_le_right hd
 refine aLR h1 h2 ?_
 have hn:(~~~ BitVec.ofNat 32 b).toNat=4294967295-b:=by
  rw [BitVec.toNat_not,BitVec.toNat_ofNat,Nat.mod_eq_of_lt hb]
 have hz:BitVec.ofNat 32 b &&& ~~~ BitVec.ofNat 32 b=0#32:=by
  apply BitVec.eq_of_getLsbD_eq
  intro i hi
  simp [hi]
 have hz:=congrArg BitVec.toNat hz
 rw [BitVec.toNat_and,hn,BitVec.toNat_ofNat,Nat.mod_eq_of_lt hb] at hz
 have hz:b &&& (4294967295-b)=0:=hz
 calc (b &&& c) &&& ((4294967295-b) &&& d)=(b &&& (4294967295-b)) &&& (c &&& d):=by
       apply Nat.eq_of_testBit_eq
       intro i
       simp only [Nat.testBit_and]
       cases b.testBit i<;>cases c.testBit i<;>cases d.testBit i<;>cases (4294967295-b).testBit i<;>rfl
  _=0:=by rw [hz,Nat.zero_and]
end Go.VC
namespace Go.Proofs.YtfcbohachbeamaaGreatDoor.E
open Go.VC Go.RowKit
def jB (x s:Nat):Nat:=(x*2 ^ s)%4294967296+x/2 ^ (32-s)
theorem Dr {x s:Nat} (hx:x<4294967296) (hs:s=1∨s=5∨s=30):jB x s<4294967296:=by
 unfold jB
 rcases hs with rfl | rfl | rfl<;>simp<;>omega
theorem aBZ {x s:Nat} (hx:x<4294967296) (hs:s=1∨s=5∨s=30):((x*2 ^ s)%4294967296)||| (x/2 ^ (32-s))=jB x s:=by
 unfold jB
 have h2:x/2 ^ (32-s)<2 ^ s:=by rcases hs with rfl | rfl | rfl<;>simp<;>omega
 have h:=Nat.two_pow_add_eq_or_of_lt h2 (x%2 ^ (32-s))
 have e:2 ^ s*(x%2 ^ (32-s))=(x*2 ^ s)%4294967296:=by rcases hs with rfl | rfl | rfl<;>simp<;>omega
 rw [e] at h
 exact h.symm
abbrev Lt (s:Nat):Prop:=s=1∨s=5∨s=30
abbrev aLW:=s2 (mR .u32) (mR .i64) (fun _ s=>Lt s) fun x s=> .o (.c (.v (.int .u32 (jB x s:Int))))
theorem aSk:Ok Tryz.prog 197 aLW:=eT (aG Tryz.func197 Fi.ent Fi.aA aH) (by simp [Fi.c]) fun x s hx _ hs=>by
 refine ⟨0,?_⟩
 have hr:=aBZ hx hs
 have ha:cX .and .u64 (IntKind.u64.wrap (s:Int)) 31=(s:Int):=by rcases hs with rfl | rfl | rfl<;>decide
 simp [Fi.c,ha]
 have key : ∀ m:Nat,m=32-s->IntKind.u64.wrap (32-(s:Int))=(m:Int)->0<=IntKind.u64.wrap (32-(s:Int))/\cX .or .u32 (IntKind.u32.wrap ((x:Int)*2 ^ min s IntKind.u32.bits)) ((x:Int).fdiv (2 ^ min (IntKind.u64.wrap (32-(s:Int))).toNat IntKind.u32.bits))=(jB x s:Int):=by
  intro m hm hw
  rw [hw]
  refine ⟨Int.natCast_nonneg m,?_⟩
  have hs2:s<=30:=by omega
  have e1:min s IntKind.u32.bits=s:=Nat.min_eq_left (Nat.le_trans hs2 (by decide))
  have e2:min (m:Int).toNat IntKind.u32.bits=m:=by
   rw [Int.toNat_natCast]
   exact Nat.min_eq_left (show m<=32 by omega)
  have e3:IntKind.u32.wrap ((x:Int)*2 ^ s)=(((x*2 ^ s)%4294967296:Nat):Int):=by
   have e:(x:Int)*2 ^ s=((x*2 ^ s:Nat):Int):=by rw [Int.natCast_mul,Int.natCast_pow];rfl
   rw [e]
   generalize x*2 ^ s=y
   rw [IntKind.wrap_u32];omega
  have e4:(x:Int).fdiv (2 ^ m)=((x/2 ^ m:Nat):Int):=by
   rw [Int.fdiv_eq_ediv_of_nonneg _ (Int.pow_nonneg (by decide)),Int.natCast_ediv,Int.natCast_pow];rfl
  rw [e1,e2,e3,e4,wH (.inl rfl) (Nat.mod_lt _ (by decide)) (Nat.lt_of_le_of_lt (Nat.div_le_self _ _) hx),hm,hr]
 rcases hs with rfl | rfl | rfl
 ·exact key 31 rfl (by decide)
 ·exact key 27 rfl (by decide)
 ·exact key 2 rfl (by decide)
abbrev Yc:=s2 (mR .i64) (mR .i64) (fun _ s=>Lt s) fun x s=> .o (.c (.v (.int .i64 (jB x s:Int))))
theorem aP4:Ok Tryz.prog 72 Yc:=eT (aG Tryz.func72 Eg.ent Eg.aA aH) (by simp [Eg.c]) fun x s hx _ hs=>by
 refine ⟨0,?_⟩
 simp [Eg.c]
 have hlt:=Dr hx hs
 have hx:x<4294967296:=hx
 rcases hs with rfl | rfl | rfl
 ·have e1:IntKind.u64.wrap ((1:Nat):Int)=1:=by decide
  have e2:IntKind.u64.wrap (IntKind.i64.wrap (32-((1:Nat):Int)))=31:=by decide
  rw [e1,e2]
  refine ⟨by decide,by decide,?_⟩
  simp only [jB] at hlt ⊢
  simp at hlt ⊢
  rw [aD (n:=(x:Int)*2) (by omega) (by omega),Int.tmod_eq_emod_of_nonneg (by omega),Int.fdiv_eq_ediv_of_nonneg _ (by decide),aD (by omega) (by omega)]
 ·have e1:IntKind.u64.wrap ((5:Nat):Int)=5:=by decide
  have e2:IntKind.u64.wrap (IntKind.i64.wrap (32-((5:Nat):Int)))=27:=by decide
  rw [e1,e2]
  refine ⟨by decide,by decide,?_⟩
  simp only [jB] at hlt ⊢
  simp at hlt ⊢
  rw [aD (n:=(x:Int)*32) (by omega) (by omega),Int.tmod_eq_emod_of_nonneg (by omega),Int.fdiv_eq_ediv_of_nonneg _ (by decide),aD (by omega) (by omega)]
 ·have e1:IntKind.u64.wrap ((30:Nat):Int)=30:=by decide
  have e2:IntKind.u64.wrap (IntKind.i64.wrap (32-((30:Nat):Int)))=2:=by decide
  rw [e1,e2]
  refine ⟨by decide,by decide,?_⟩
  simp only [jB] at hlt ⊢
  simp at hlt ⊢
  rw [aD (n:=(x:Int)*1073741824) (by omega) (by omega),Int.tmod_eq_emod_of_nonneg (by omega),Int.fdiv_eq_ediv_of_nonneg _ (by decide),aD (by omega) (by omega)]
end Go.Proofs.YtfcbohachbeamaaGreatDoor.E
end
section
namespace Go.VC
def nb (l:List UInt8):List Int:=l.map fun c=>(c.toNat:Int)
def Gb:AP->Bool
 | .c (.r .u8 l)=>l.all fun x=>decide (0<=x/\x<256)
 | _=>false
def Gp:AP->List UInt8
 | .c (.r _ l)=>l.map fun x=>UInt8.ofNat x.toNat
 | _=> []
theorem X0 (l:List UInt8):(nb l).map (fun x=>UInt8.ofNat x.toNat)=l:=by
 unfold nb
 rw [List.map_map]
 have:((fun x:Int=>UInt8.ofNat x.toNat) ∘ fun c:UInt8=>(c.toNat:Int))=id:=by funext c;simp
 rw [this,List.map_id]
theorem T5 : ∀ {l:List Int},(l.all fun x=>decide (0<=x/\x<256))=true->l=nb (l.map fun x=>UInt8.ofNat x.toNat)
 | [],_=>rfl
 | x::l,h=>by
  simp only [List.all_cons,Bool.and_eq_true,decide_eq_true_eq] at h
  have:=T5 (l:=l) (by simpa using h.2)
  simp only [nb,List.map_cons] at this ⊢
  rw [← this]
  congr 1
  rw [UInt8.toNat_ofNat']
  omega
def jJ:Co (List UInt8) where
 e l:= .c (.r .u8 (nb l))
 p _:=True
 v a:=Gb a=true
 dv a:=inferInstance
 t:=Gp
 some {a} h:=by
  unfold Gb at h
  split at h
  ·exact ⟨by simp only [Gp];rw [← T5 h],trivial⟩
  ·cases h
 enc {x} h:=⟨by
  show (nb x).all (fun x=>decide (0<=x/\x<256))=true
  rw [List.all_eq_true]
  intro y hy
  simp only [nb,List.mem_map] at hy
  obtain ⟨c,-,rfl⟩:=hy
  have:=c.toNat_lt
  simp;omega,X0 x⟩
theorem Qr {l:List UInt8} : Gb (.c (.r .u8 (nb l)))=true:=jJ.enc (x:=l) trivial |>.1
theorem Wb {l:List UInt8} : Gp (.c (.r .u8 (nb l)))=l:=X0 l
theorem aBw {l:List UInt8} : jJ.e l = .c (.r .u8 (nb l)):=_root_.id rfl
theorem It {a:AP} : jJ.v a=(Gb a=true):=_root_.id rfl
theorem Ip {a:AP} : jJ.t a=Gp a:=_root_.id rfl
theorem aRK {l:List UInt8} : jJ.p l=True:=_root_.id rfl
theorem yG (l:List UInt8):(nb l).length=l.length:=by simp [nb]
theorem aFu (l:List UInt8) (n:Nat):(nb l).take n=nb (l.take n):=by simp [nb]
theorem aHM (l:List UInt8) (n:Nat):(nb l).drop n=nb (l.drop n):=by simp [nb]
theorem aIP:nb [] = []:=_root_.id rfl
theorem aH0 (l:List UInt8):(l.map fun c=>(c.toNat:Int))=nb l:=_root_.id rfl
theorem aGQ (l:List UInt8) (i:Nat):(nb l).getD i 0=((l.getD i 0).toNat:Int):=by
 simp only [nb,List.getD_eq_getElem?_getD,List.getElem?_map]
 cases l[i]? <;> rfl
attribute [simp] Qr Wb aBw It Ip aRK aH0
end Go.VC
namespace Go.Proofs.YtfcbohachbeamaaGreatDoor.E
open Go.VC Go.RowKit
def fN (t b c d:Nat):Nat:=
 if t<20 then (b &&& c)+((4294967295-b) &&& d) else if t<40 then b ^^^ c ^^^ d
 else if t<60 then b &&& c ||| b &&& d ||| c &&& d else b ^^^ c ^^^ d
def kN (t:Nat):Nat:=if t<20 then 1518500249 else if t<40 then 1859775393 else if t<60 then 2400959708 else 3395469782
theorem H7 (t:Nat):kN t<4294967296:=by unfold kN;split<;>(try split)<;>(try split)<;>decide
theorem kV {a b:Nat} (h:a<4294967296):a &&& b<4294967296:=Nat.lt_of_le_of_lt Nat.and_le_left h
theorem zZ {a b:Nat} (h:a<4294967296) (h2:b<4294967296):a ||| b<4294967296:=Nat.or_lt_two_pow (n:=32) h h2
theorem gQ {a b:Nat} (h:a<4294967296) (h2:b<4294967296):a ^^^ b<4294967296:=Nat.xor_lt_two_pow (n:=32) h h2
theorem Zc {t b c d:Nat} (hb:b<4294967296) (hc:c<4294967296) (hd:d<4294967296):fN t b c d<4294967296:=by
 unfold fN
 split
 ·rw [← j9 hb hc hd]
  exact zZ (kV hb) (kV (by omega))
 ·split
  ·exact gQ (gQ hb hc) hd
  ·split
   ·exact zZ (zZ (kV hb) (kV hb)) (kV hc)
   ·exact gQ (gQ hb hc) hd
abbrev aNJ:=s4 (mR .i64) (mR .u32) (mR .u32) (mR .u32) (fun t _ _ _=>t<80) fun t b c d=> .o (.c (.v (.int .u32 (fN t b c d:Int))))
theorem aFv:Ok Tryz.prog 198 aNJ:=Yo (aG Tryz.func198 uZ.ent uZ.aA aH) (by simp [uZ.c]) fun t b c d _ hb hc hd ht=>by
 refine ⟨0,?_⟩
 simp only [z7] at hb hc hd
 have hu:IntKind.u32 = .u32∨IntKind.u32 = .i64:= .inl rfl
 have a1:=uM hu hb hc
 have a2:=uM hu hb hd
 have a3:=uM hu hc hd
 have a4:=aCJ hb
 have a5:=uM hu (a:=4294967295-b) (b:=d) (by omega) hd
 have a6:=wH hu (kV hb (b:=c)) (kV (a:=4294967295-b) (b:=d) (by omega))
 have a7:=wH hu (kV hb (b:=c)) (kV hb (b:=d))
 have a8:=wH hu (zZ (kV hb (b:=c)) (kV hb (b:=d))) (kV hc (b:=d))
 have a9:=qC hu hb hc
 have a10:=qC hu (gQ hb hc) hd
 have ch:=j9 hb hc hd
 have td:(t:Int).tdiv 20=((t/20:Nat):Int):=by rw [Int.tdiv_eq_ediv_of_nonneg (by omega)];omega
 have mx:IntKind.max .u32=4294967295:=by decide
 have sg:IntKind.signed .u32=false:=rfl
 have wd:IntKind.i64.wrap ((t/20:Nat):Int)=((t/20:Nat):Int):=aD (by omega) (by omega)
 by_cases h1:t<20
 ·have e:((t/20:Nat):Int)=0:=by omega
  rw [e] at td wd
  simp [uZ.c,td,wd,mx,sg,a1,a4,a5,a6,ch,fN,h1]
 ·by_cases h2:t<40
  ·have e:((t/20:Nat):Int)=1:=by omega
   rw [e] at td wd
   simp [uZ.c,td,wd,mx,a9,a10,fN,h1,h2]
  ·by_cases h3:t<60
   ·have e:((t/20:Nat):Int)=2:=by omega
    rw [e] at td wd
    simp [uZ.c,td,wd,mx,a1,a2,a3,a7,a8,fN,h1,h2,h3]
   ·have e:((t/20:Nat):Int)=3:=by omega
    rw [e] at td wd
    simp [uZ.c,td,wd,mx,a9,a10,fN,h1,h2,h3]
abbrev aMc:=s1 (mR .i64) (fun t=>t<80) fun t=> .o (.c (.v (.int .u32 (kN t:Int))))
theorem aL1:Ok Tryz.prog 199 aMc:=cA (aG Tryz.func199 tU.ent tU.aA aH) (by simp [tU.c]) fun t _ ht=>by
 refine ⟨0,?_⟩
 have td:(t:Int).tdiv 20=((t/20:Nat):Int):=by rw [Int.tdiv_eq_ediv_of_nonneg (by omega)];omega
 have wd:IntKind.i64.wrap ((t/20:Nat):Int)=((t/20:Nat):Int):=aD (by omega) (by omega)
 by_cases h1:t<20
 ·have e:((t/20:Nat):Int)=0:=by omega
  rw [e] at td wd
  simp [tU.c,td,wd,kN,h1]
 ·by_cases h2:t<40
  ·have e:((t/20:Nat):Int)=1:=by omega
   rw [e] at td wd
   simp [tU.c,td,wd,kN,h1,h2]
  ·by_cases h3:t<60
   ·have e:((t/20:Nat):Int)=2:=by omega
    rw [e] at td wd
    simp [tU.c,td,wd,kN,h1,h2,h3]
   ·have e:((t/20:Nat):Int)=3:=by omega
    rw [e] at td wd
    simp [tU.c,td,wd,kN,h1,h2,h3]
end Go.Proofs.YtfcbohachbeamaaGreatDoor.E
end
section
namespace Go.Proofs.YtfcbohachbeamaaGreatDoor.E
open Go.VC Go.RowKit
def vJ (b:List UInt8) (t:Nat):Nat:=(b.getD (4*t) 0).toNat*16777216+(b.getD (4*t+1) 0).toNat*65536+(b.getD (4*t+2) 0).toNat*256+(b.getD (4*t+3) 0).toNat
def lS (b:List UInt8) (w:List Nat) (t:Nat):Nat:=
 if t<16 then vJ b t else jB (w.getD (t-3) 0 ^^^ w.getD (t-8) 0 ^^^ w.getD (t-14) 0 ^^^ w.getD (t-16) 0) 1
def bP (b:List UInt8):Nat->List Nat
 | 0=> []
 | t+1=>bP b t ++ [lS b (bP b t) t]
theorem Cd (b:List UInt8) : ∀ t,(bP b t).length=t
 | 0=>rfl
 | t+1=>by simp [bP,Cd b t]
theorem aFl (b:List UInt8) (t:Nat):vJ b t<4294967296:=by
 have h1:=(b.getD (4*t) 0).toNat_lt
 have h2:=(b.getD (4*t+1) 0).toNat_lt
 have h3:=(b.getD (4*t+2) 0).toNat_lt
 have h4:=(b.getD (4*t+3) 0).toNat_lt
 unfold vJ
 omega
theorem rV (b:List UInt8) : ∀ t i,(bP b t).getD i 0<4294967296
 | 0,i=>by simp [bP]
 | t+1,i=>by
  have ih:=rV b t
  have hn:lS b (bP b t) t<4294967296:=by
   unfold lS
   split
   ·exact aFl b t
   ·exact Dr (gQ (gQ (gQ (ih _) (ih _)) (ih _)) (ih _)) (.inl rfl)
  simp only [bP,List.getD_eq_getElem?_getD,List.getElem?_append] at ih ⊢
  split
  ·exact ih i
  ·by_cases h:i-(bP b t).length=0
   ·rw [h];simpa using hn
   ·rw [List.getElem?_eq_none (by simp;omega)];simp
def cw (k:IntKind) (l:List Nat):List AC:=l.map fun (x:Nat)=>AC.v (.int k (x:Int))
theorem qY (k:IntKind) (l:List Nat):(cw k l).length=l.length:=by simp [cw]
theorem rN (k:IntKind) (l:List Nat) (Z:List AC) {i:Nat} (h:i<l.length):(cw k l++Z)[i]? = some (.v (.int k ((l.getD i 0:Nat):Int))):=by
 rw [List.getElem?_append_left (by rw [qY];exact h)]
 simp [cw,List.getD_eq_getElem?_getD,List.getElem?_eq_getElem h]
theorem x6 (k:IntKind) (l:List Nat) (n:Nat):(cw k l).take n=cw k (l.take n):=by simp [cw]
theorem Lo (k:IntKind) (l r:List Nat):cw k (l++r)=cw k l++cw k r:=by simp [cw]
theorem aAL (k:IntKind) (l:List Nat):(∀ x,x∈cw k l->x.known=true)=True:=eq_true (by
 intro x hx
 simp only [cw,List.mem_map] at hx
 obtain ⟨y,-,rfl⟩:=hx
 rfl)
theorem aAG (k:IntKind) (l:List Nat):(∀ x,x∈cw k l->x.free=true)=True:=eq_true (by
 intro x hx
 simp only [cw,List.mem_map] at hx
 obtain ⟨y,-,rfl⟩:=hx
 rfl)
theorem aMG (k:IntKind) (l:List Nat):(cw k l).map AC.wk=cw k l:=by simp [cw,AC.wk]
theorem L8 (k:IntKind) : ∀ (l:List Nat),rF (cw k l) = []
 | []=>rfl
 | x::l=>by
  have:=L8 k l
  simp only [cw,List.map_cons,rF,AC.rows,List.nil_append] at this ⊢
  exact this
theorem aAQ {k:IntKind} {l:List Nat} {Z:List AC} {a:AC} {i:Nat} (h:l.length=i):(cw k l++a::Z).drop (i+1)=Z:=by
 have hl:(cw k l).length=i:=by rw [qY,h]
 rw [List.drop_append,hl,List.drop_eq_nil_of_le (by omega)]
 simp
theorem Wv {k:IntKind} {l:List Nat} {Z:List AC} {a v:AC} {i:Nat} (h:l.length=i):(cw k l++a::Z).take i++v::(cw k l++a::Z).drop (i+1)=cw k l++v::Z:=by
 have hl:(cw k l).length=i:=by rw [qY,h]
 rw [List.take_left' hl]
 congr 1
 have:(cw k l++a::Z).drop (i+1)=Z:=by
  rw [List.drop_append,hl,List.drop_eq_nil_of_le (by omega)]
  simp
 rw [this]
theorem aPk {a b c d:Nat} (ha:a<256) (hb:b<256) (hc:c<256) (hd:d<256):a*16777216 ||| b*65536 ||| c*256 ||| d=a*16777216+b*65536+c*256+d:=by
 have h1:=Nat.two_pow_add_eq_or_of_lt (i:=24) (b:=b*65536) (by omega) a
 have h2:=Nat.two_pow_add_eq_or_of_lt (i:=16) (b:=c*256) (by omega) (a*256+b)
 have h3:=Nat.two_pow_add_eq_or_of_lt (i:=8) (b:=d) (by omega) (a*65536+b*256+c)
 have e1:2 ^ 24*a=a*16777216:=by omega
 have e2:2 ^ 16*(a*256+b)=a*16777216+b*65536:=by omega
 have e3:2 ^ 8*(a*65536+b*256+c)=a*16777216+b*65536+c*256:=by omega
 rw [e1] at h1
 rw [e2] at h2
 rw [e3] at h3
 rw [← h1,← h2,← h3]
theorem aM9 {a b c d:Nat} (ha:a<256) (hb:b<256) (hc:c<256) (hd:d<256) :
 cX .or .u32 (cX .or .u32 (cX .or .u32 (IntKind.u32.wrap (IntKind.u32.wrap (a:Int)*2 ^ min 24 IntKind.u32.bits)) (IntKind.u32.wrap (IntKind.u32.wrap (b:Int)*2 ^ min 16 IntKind.u32.bits))) (IntKind.u32.wrap (IntKind.u32.wrap (c:Int)*2 ^ min 8 IntKind.u32.bits))) (IntKind.u32.wrap (d:Int))=((a*16777216+b*65536+c*256+d:Nat):Int):=by
 have w : ∀ {x:Nat},x<256->IntKind.u32.wrap (x:Int)=(x:Int):=fun h=>Kq (by omega) (by omega)
 have m1:min 24 IntKind.u32.bits=24:=by decide
 have m2:min 16 IntKind.u32.bits=16:=by decide
 have m3:min 8 IntKind.u32.bits=8:=by decide
 have p1:(2:Int) ^ 24=16777216:=by decide
 have p2:(2:Int) ^ 16=65536:=by decide
 have p3:(2:Int) ^ 8=256:=by decide
 rw [w ha,w hb,w hc,w hd,m1,m2,m3,p1,p2,p3]
 have e1:IntKind.u32.wrap ((a:Int)*16777216)=((a*16777216:Nat):Int):=by rw [Kq (by omega) (by omega)];omega
 have e2:IntKind.u32.wrap ((b:Int)*65536)=((b*65536:Nat):Int):=by rw [Kq (by omega) (by omega)];omega
 have e3:IntKind.u32.wrap ((c:Int)*256)=((c*256:Nat):Int):=by rw [Kq (by omega) (by omega)];omega
 rw [e1,e2,e3,wH (.inl rfl) (by omega) (by omega),wH (.inl rfl) (zZ (by omega) (by omega)) (by omega),wH (.inl rfl) (zZ (zZ (by omega) (by omega)) (by omega)) (by omega),aPk ha hb hc hd]
abbrev Jx (n:Nat):List AC:=List.replicate n (.v (.int .u32 0))
abbrev aJ8:=s1 jJ (fun b=>b.length=64) fun b=> .o (.g (cw .u32 (bP b 80)))
theorem aLM:Ok Tryz.prog 196 aJ8:=cA (aG Tryz.func196 qT.ent qT.aA (aB aSk aH)) (by simp [qT.c]) fun b _ hb=>by
 refine ⟨81,?_⟩
 simp only [qT.c,fL,fC,fJ,fG]
 simp
 refine iO (fun i s=>s.tm 0 = .o (.c (.r .u8 (nb b)))/\s.tm 2 = .o (.c (.p 2 0))/\s.tm 3 = .o (.c (.p 3 0))/\s.tm 5 = .o (iv .i64 (i:Int))/\s.mem 2=some (Jx 80)/\s.mem 3=some (cw .u32 (bP b i)++Jx (80-i))) 80 ?_ ?_ _ _ (by decide) ?_
 ·rintro i s hi ⟨t0,t2,t3,t5,m2,m3⟩
  have h1:(i:Int)<80:=by omega
  have w:IntKind.i64.wrap ((i:Int)+1)=(i:Int)+1:=aD (by omega) (by omega)
  have hl:=Cd b i
  obtain ⟨Z,hZ⟩ : ∃ Z,Z=Jx (79-i):=⟨_,rfl⟩
  have hz:Jx (80-i) = .v (.int .u32 0)::Z:=by
   have:80-i=(79-i)+1:=by omega
   rw [this,hZ];rfl
  have hZl:Z.length=79-i:=by rw [hZ];simp
  have hii:((i:Int)+1)=((i+1:Nat):Int):=by omega
  rw [hz] at m3
  by_cases hc:i<16
  ·have hc':(i:Int)<16:=by omega
   have u0:=(b.getD (4*i) 0).toNat_lt
   have u1:=(b.getD (4*i+1) 0).toNat_lt
   have u2:=(b.getD (4*i+2) 0).toNat_lt
   have u3:=(b.getD (4*i+3) 0).toNat_lt
   have e0:IntKind.i64.wrap (4*(i:Int))=((4*i:Nat):Int):=by rw [aD (by omega) (by omega)];omega
   have e1:IntKind.i64.wrap (((4*i:Nat):Int)+1)=((4*i+1:Nat):Int):=by rw [aD (by omega) (by omega)];omega
   have e2:IntKind.i64.wrap (((4*i:Nat):Int)+2)=((4*i+2:Nat):Int):=by rw [aD (by omega) (by omega)];omega
   have e3:IntKind.i64.wrap (((4*i:Nat):Int)+3)=((4*i+3:Nat):Int):=by rw [aD (by omega) (by omega)];omega
   have pk:=aM9 u0 u1 u2 u3
   have q0:((4*i:Nat):Int)<64:=by omega
   have q1:((4*i+1:Nat):Int)<64:=by omega
   have q2:((4*i+2:Nat):Int)<64:=by omega
   have q3:((4*i+3:Nat):Int)<64:=by omega
   have hs:=Wv (k:= .u32) (a:= .v (.int .u32 0)) (v:= .v (.int .u32 ((vJ b i:Nat):Int))) (Z:=Z) hl
   have hx:lS b (bP b i) i=vJ b i:=by simp [lS,hc]
   have hcw:cw .u32 (bP b (i+1))=cw .u32 (bP b i) ++ [.v (.int .u32 ((vJ b i:Nat):Int))]:=by simp only [bP,Lo,hx];rfl
   simp [-List.getD_eq_getElem?_getD,-Int.natCast_add,-Int.natCast_mul,qT.l1,t0,t2,t3,t5,m2,m3,h1,hc',w,e0,e1,e2,e3,yG,aGQ,hb,q0,q1,q2,q3,pk]
   refine ⟨by rw [qY,hZl];omega,hii,?_⟩
   rw [hcw,← hZ]
   refine hs.trans ?_
   simp
  ·have hc' : ¬ (i:Int)<16:=by omega
   have j0:((i-3:Nat):Int)<80:=by omega
   have j1:((i-8:Nat):Int)<80:=by omega
   have j2:((i-14:Nat):Int)<80:=by omega
   have j3:((i-16:Nat):Int)<80:=by omega
   have k0:i-3+1<=i+(79-i+1):=by omega
   have k1:i-8+1<=i+(79-i+1):=by omega
   have k2:i-14+1<=i+(79-i+1):=by omega
   have k3:i-16+1<=i+(79-i+1):=by omega
   have e0:IntKind.i64.wrap ((i:Int)-3)=((i-3:Nat):Int):=by rw [aD (by omega) (by omega)];omega
   have e1:IntKind.i64.wrap ((i:Int)-8)=((i-8:Nat):Int):=by rw [aD (by omega) (by omega)];omega
   have e2:IntKind.i64.wrap ((i:Int)-14)=((i-14:Nat):Int):=by rw [aD (by omega) (by omega)];omega
   have e3:IntKind.i64.wrap ((i:Int)-16)=((i-16:Nat):Int):=by rw [aD (by omega) (by omega)];omega
   have g0:=rN .u32 (bP b i) (.v (.int .u32 0)::Z) (i:=i-3) (by omega)
   have g1:=rN .u32 (bP b i) (.v (.int .u32 0)::Z) (i:=i-8) (by omega)
   have g2:=rN .u32 (bP b i) (.v (.int .u32 0)::Z) (i:=i-14) (by omega)
   have g3:=rN .u32 (bP b i) (.v (.int .u32 0)::Z) (i:=i-16) (by omega)
   have l0:=rV b i (i-3)
   have l1:=rV b i (i-8)
   have l2:=rV b i (i-14)
   have l3:=rV b i (i-16)
   have x0:=qC (k:= .u32) (.inl rfl) l0 l1
   have x1:=qC (k:= .u32) (.inl rfl) (gQ l0 l1) l2
   have x2:=qC (k:= .u32) (.inl rfl) (gQ (gQ l0 l1) l2) l3
   have xl:=gQ (gQ (gQ l0 l1) l2) l3
   have hx:lS b (bP b i) i=jB ((bP b i).getD (i-3) 0 ^^^ (bP b i).getD (i-8) 0 ^^^ (bP b i).getD (i-14) 0 ^^^ (bP b i).getD (i-16) 0) 1:=by simp only [lS,hc,if_false]
   have hcw:cw .u32 (bP b (i+1))=cw .u32 (bP b i) ++ [.v (.int .u32 ((lS b (bP b i) i:Nat):Int))]:=by simp only [bP,Lo];rfl
   have hs:=Wv (k:= .u32) (a:= .v (.int .u32 0)) (v:= .v (.int .u32 ((lS b (bP b i) i:Nat):Int))) (Z:=Z) hl
   simp [-List.getD_eq_getElem?_getD,-Int.natCast_add,-Int.natCast_mul,qT.l1,t0,t2,t3,t5,m2,m3,h1,hc',w,e0,e1,e2,e3,qY,hl,hZl,g0,g1,g2,g3,x0,x1,x2,xl,j0,j1,j2,j3,k0,k1,k2,k3]
   refine ⟨⟨Int.ofNat_lt.2 xl,.inl rfl⟩,hii,?_⟩
   rw [aAQ hl,hcw,← hZ,hx]
   simp
 ·rintro s ⟨t0,t2,t3,t5,m2,m3⟩
  have hl:=Cd b 80
  have tk:(bP b 80).take 80=bP b 80:=List.take_of_length_le (by omega)
  simp [-AC.known,-AC.free,-AC.wk,-rF,qT.l1,t0,t2,t3,t5,m2,m3,x6,tk,qY,hl,aAL,aAG,aMG,L8]
 ·simp [bP,cw]
  rfl
theorem aDq (b:List UInt8):bP b 0 = []:=rfl
theorem Q4 (b:List UInt8) (t:Nat):bP b (t+1)=bP b t ++ [lS b (bP b t) t]:=rfl
attribute [irreducible] bP
end Go.Proofs.YtfcbohachbeamaaGreatDoor.E
end
