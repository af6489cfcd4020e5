/- What the laws' code answers: part 7 of what the rows of this seat lean on. -/
import Derived.Test.YtfcbohachbeamaaGreatDoorM3
import Derived.Test.YtfcbohachbeamaaGreatDoorM6
set_option linter.unusedVariables false
set_option linter.unusedSimpArgs false
set_option maxHeartbeats 8000000
set_option maxRecDepth 100000
section
namespace Go.VC
def val:List Int->Int
 | []=>0
 | d::l=>d+65536*val l
def Dg (l:List Int):Prop:= ∀ d∈l,0<=d/\d<65536
instance (l:List Int):Decidable (Dg l):=inferInstanceAs (Decidable (∀ d∈l,0<=d/\d<65536))
def fK (l:List Int):Prop:=l.getLast? ≠ some 0
instance (l:List Int):Decidable (fK l):=inferInstanceAs (Decidable (l.getLast? ≠ some 0))
def nP (n:Nat):List Int:=if h:n=0 then [] else ((n%65536:Nat):Int)::nP (n/65536)
termination_by n
decreasing_by omega
theorem rS:nP 0 = []:=by rw [nP];simp
theorem Gm {n:Nat} (h:n≠0):nP n=((n%65536:Nat):Int)::nP (n/65536):=by rw [nP];simp [h]
theorem aO8 : ∀ n:Nat,val (nP n)=n:=fun n=>by
 induction n using Nat.strongRecOn with
 | _ n ih=>
  by_cases h:n=0
  ·subst h;rw [rS];rfl
  ·rw [Gm h,val,ih (n/65536) (by omega)];omega
theorem aNL : ∀ n:Nat,Dg (nP n):=fun n=>by
 induction n using Nat.strongRecOn with
 | _ n ih=>
  by_cases h:n=0
  ·subst h;rw [rS];intro d hd;cases hd
  ·rw [Gm h]
   intro d hd
   rcases List.mem_cons.1 hd with rfl | hd
   ·omega
   ·exact ih (n/65536) (by omega) d hd
theorem aIv : ∀ n:Nat,fK (nP n):=fun n=>by
 induction n using Nat.strongRecOn with
 | _ n ih=>
  by_cases h:n=0
  ·subst h;rw [rS];simp [fK]
  ·rw [Gm h]
   unfold fK
   by_cases h2:n/65536=0
   ·rw [h2,rS]
    simp
    omega
   ·have:=ih (n/65536) (by omega)
    unfold fK at this
    rw [Gm h2] at this ⊢
    rw [List.getLast?_cons_cons]
    exact this
theorem Dj : ∀ {l:List Int},Dg l->0<=val l
 | [],_=>by simp [val]
 | d::l,h=>by
  have h1:=h d (by simp)
  have h2:=Dj (l:=l) (fun x hx=>h x (by simp [hx]))
  simp only [val];omega
theorem Km : ∀ {l:List Int},Dg l->fK l->l=nP (val l).toNat
 | [],_,_=>by simp [val,rS]
 | d::l,h,ht=>by
  have h1:=h d (by simp)
  have hl:Dg l:=fun x hx=>h x (by simp [hx])
  have h2:=Dj hl
  have htl:fK l:=by
   cases l with
   | nil=>simp [fK]
   | cons e l=>unfold fK at ht ⊢;rwa [List.getLast?_cons_cons] at ht
  have ih:=Km hl htl
  have hne:(val (d::l)).toNat≠0:=by
   simp only [val]
   by_cases h0:val l=0
   ·rw [h0] at ih
    simp [rS] at ih
    subst ih
    simp [fK] at ht
    omega
   ·omega
  rw [Gm hne]
  simp only [val]
  have e1:(((d+65536*val l).toNat%65536:Nat):Int)=d:=by omega
  have e2:(d+65536*val l).toNat/65536=(val l).toNat:=by omega
  rw [e1,e2,← ih]
theorem Tq : ∀ (a b:List Int),val (a++b)=val a+65536 ^ a.length*val b
 | [],b=>by simp [val]
 | d::a,b=>by
  simp only [List.cons_append,val,Tq a b,List.length_cons,Int.pow_succ]
  grind
theorem Ht : ∀ {l:List Int},Dg l->val l<65536 ^ l.length
 | [],_=>by simp [val]
 | d::l,h=>by
  have h1:=h d (by simp)
  have h2:=Ht (l:=l) (fun x hx=>h x (by simp [hx]))
  simp only [val,List.length_cons,Int.pow_succ];omega
theorem Qt {l:List Int} (n:Nat) (h:Dg l):Dg (l.take n):=fun d hd=>h d (List.mem_of_mem_take hd)
theorem Ty {a b:List Int} (ha:Dg a) (hb:Dg b):Dg (a++b):=fun d hd=>by
 rcases List.mem_append.1 hd with h | h
 ·exact ha d h
 ·exact hb d h
theorem val_zero : ∀ {l:List Int},(∀ d∈l,d=0)->val l=0
 | [],_=>rfl
 | d::l,h=>by
  have h1:=h d (by simp)
  have h2:=val_zero (l:=l) (fun x hx=>h x (by simp [hx]))
  simp only [val];omega
theorem Ti (l:List Int) (n:Nat) (hn:n<=l.length):val l=val (l.take n)+65536 ^ n*val (l.drop n):=by
 have:=Tq (l.take n) (l.drop n)
 rw [List.take_append_drop,List.length_take,Nat.min_eq_left hn] at this
 exact this
theorem Ur (l:List Int) (i:Nat) (hi:i<l.length):val (l.drop i)=l.getD i 0+65536*val (l.drop (i+1)):=by
 rw [List.drop_eq_getElem_cons hi]
 simp [val,List.getD_eq_getElem?_getD,List.getElem?_eq_getElem hi]
theorem gK {l:List Int} (h:Dg l) (i:Nat):0<=l.getD i 0/\l.getD i 0<65536:=by
 rw [List.getD_eq_getElem?_getD]
 cases hq:l[i]? with
 | none=>simp
 | some d=>exact h d (List.mem_of_getElem? hq)
theorem aKP {l:List Int} (hd:Dg l) (n:Nat) (hn:n<=l.length) (hz : ∀ j,n<=j->j<l.length->l.getD j 0=0) (hs:n=0∨l.getD (n-1) 0≠0):l.take n=nP (val l).toNat:=by
 have h0:val (l.drop n)=0:=val_zero (fun d hd'=>by
  obtain ⟨j,hj,rfl⟩:=List.getElem_of_mem hd'
  have hj':n+j<l.length:=by rw [List.length_drop] at hj;omega
  have:=hz (n+j) (by omega) hj'
  rw [List.getElem_drop]
  simpa [List.getD_eq_getElem?_getD,List.getElem?_eq_getElem hj'] using this)
 have h1:=Ti l n hn
 rw [h0,Int.mul_zero,Int.add_zero] at h1
 rw [h1]
 refine Km (Qt n hd) ?_
 unfold fK
 rw [List.getLast?_eq_getElem?,List.length_take,Nat.min_eq_left hn]
 rcases hs with rfl | hs
 ·simp
 ·by_cases h2:n=0
  ·subst h2;simp
  ·rw [List.getElem?_take,if_pos (by omega)]
   intro hc
   rw [List.getD_eq_getElem?_getD,hc] at hs
   exact hs rfl
def eJ (z:Int):Bool:=decide (z<0)
def dg (z:Int):List Int:=nP z.natAbs
def dO (z:Int):AP:= .g [.v (.bool (eJ z)),.r .i64 (dg z)]
def dB:AP->Option Int
 | .g [.v (.bool b),.r .i64 l]=>if Dg l/\fK l/\(b=true->l ≠ []) then some (if b=true then -val l else val l) else none
 | _=>none
theorem Al (z:Int):val (dg z)=z.natAbs:=aO8 _
theorem mK (z:Int):Dg (dg z):=aNL _
theorem tZ (z:Int):fK (dg z):=aIv _
theorem Ox {z:Int} : dg z = []↔z=0:=by
 constructor
 ·intro h
  have:=Al z
  rw [h] at this
  simp [val] at this
  omega
 ·rintro rfl
  exact rS
theorem wT (z:Int):dB (.g [.v (.bool (eJ z)),.r .i64 (dg z)])=some z:=by
 have hc:eJ z=true->dg z ≠ []:=fun h h2=>by
  unfold eJ at h
  simp at h
  rw [Ox] at h2
  omega
 simp only [dB]
 rw [if_pos ⟨mK z,tZ z,hc⟩,Al]
 unfold eJ
 congr 1
 split<;>rename_i h<;>simp at h<;>omega
theorem vG {a:AP} {z:Int} (h:dB a=some z):a=dO z:=by
 unfold dB at h
 split at h
 ·rename_i b l
  split at h
  ·rename_i hh
   obtain ⟨h1,h2,h3⟩:=hh
   have hv:=Dj h1
   have hl:=Km h1 h2
   simp only [Option.some.injEq] at h
   unfold dO eJ dg
   cases b with
   | true=>
    simp only [if_true] at h
    have hne:=h3 rfl
    have hpos:val l≠0:=fun h0=>by
     rw [h0] at hl
     simp [rS] at hl
     exact hne hl
    have e1:z.natAbs=(val l).toNat:=by omega
    have e2:decide (z<0)=true:=by simp;omega
    rw [e1,← hl,e2]
   | false=>
    simp only [Bool.false_eq_true,if_false] at h
    have e1:z.natAbs=(val l).toNat:=by omega
    have e2:decide (z<0)=false:=by simp;omega
    rw [e1,← hl,e2]
  ·cases h
 ·cases h
def dR:AP->Option (List Int)
 | .c (.r .i64 l)=>if Dg l then some l else none
 | _=>none
theorem Nz (z:Int):dR (.c (.r .i64 (dg z)))=some (dg z):=by simp only [dR];rw [if_pos (mK z)]
theorem Fe {a:AP} {l:List Int} (h:dR a=some l):a = .c (.r .i64 l)/\Dg l:=by
 unfold dR at h
 split at h
 ·split at h
  ·rename_i hh;cases h;exact ⟨rfl,hh⟩
  ·cases h
 ·cases h
theorem Zo : ∀ (k n:Nat),n<65536 ^ k->(nP n).length<=k
 | 0,n,h=>by
  have:n=0:=by simpa using h
  subst this;rw [rS];simp
 | k+1,n,h=>by
  by_cases h0:n=0
  ·subst h0;rw [rS];simp
  ·rw [Gm h0]
   have:=Zo k (n/65536) (by rw [Nat.pow_succ] at h;omega)
   simp;omega
end Go.VC
namespace Go.VC
def vN:AP->Bool
 | .c (.r .i64 l)=>decide (Dg l/\fK l)
 | _=>false
def tN:AP->Int
 | .c (.r _ l)=>val l
 | _=>0
def vD:AP->Bool
 | .c (.r .i64 l)=>decide (Dg l)
 | _=>false
def vB:AP->Bool
 | .g [.v (.bool b),.r .i64 l]=>decide (Dg l/\fK l/\(b=true->l ≠ []))
 | _=>false
def tB:AP->Int
 | .g [.v (.bool b),.r _ l]=>if b=true then -val l else val l
 | _=>0
def tH (z:Int):Int:=z.natAbs
theorem Z5 {z:Int} (h:0<=z):tH z=z:=by unfold tH;omega
theorem aRl (z:Int):tH z=if z<0 then -z else z:=by unfold tH;split<;>omega
section
variable {z:Int} {k:IntKind} {l:List Int} {b:Bool}
theorem r9:(vN (.c (.r .i64 (dg z)))=true)=True:=by simp [vN,mK,tZ]
theorem aKn:(vN (.c (.r .i64 []))=true)=True:=by simp [vN,Dg,fK]
theorem H9:tN (.c (.r k (dg z)))=tH z:=Al z
theorem aQw:tN (.c (.r k []))=0:=_root_.id rfl
theorem aAv:(vD (.c (.r .i64 l))=true)=Dg l:=by simp only [vD,decide_eq_true_eq]
theorem aLN:(vD (.c (.r .i64 (dg z)))=true)=True:=by simp [vD,mK]
theorem Zx:(vB (.g [.v (.bool b),.r .i64 (dg z)])=true)=(b=true->z≠0):=by
 simp only [vB,decide_eq_true_eq]
 apply propext
 constructor
 ·intro h hb hz;exact h.2.2 hb (Ox.2 hz)
 ·intro h;exact ⟨mK z,tZ z,fun hb hz=>h hb (Ox.1 hz)⟩
theorem W7:(vB (.g [.v (.bool (eJ z)),.r .i64 (dg z)])=true)=True:=by
 rw [Zx]
 apply propext
 simp only [iff_true]
 unfold eJ
 intro h
 have:=of_decide_eq_true h
 omega
theorem aLb:(vB (.g [.v (.bool false),.r .i64 []])=true)=True:=by simp [vB,Dg,fK]
theorem Zk:tB (.g [.v (.bool b),.r k (dg z)])=if b=true then -tH z else tH z:=by
 simp only [tB,Al,tH]
theorem aAs:tB (.g [.v (.bool (eJ z)),.r k (dg z)])=z:=by
 rw [Zk]
 unfold eJ tH
 by_cases h:z<0
 ·simp only [h,decide_true,if_true];omega
 ·simp only [h,decide_false,Bool.false_eq_true,if_false];omega
theorem aEz:tB (.g [.v (.bool false),.r k []])=0:=_root_.id rfl
end
def Il:Co Int where
 e:=fun z=> .c (.r .i64 (dg z))
 p:=fun z=>0<=z
 v a:=vN a=true
 dv a:=inferInstance
 t:=tN
 some {a} h:=by
  unfold vN at h
  split at h
  ·rename_i l
   have h:=of_decide_eq_true h
   have h0:=Dj h.1
   refine ⟨?_,h0⟩
   show AP.c (.r .i64 l) = .c (.r .i64 (dg (val l)))
   have h1:=Km h.1 h.2
   unfold dg
   rw [show (val l).natAbs=(val l).toNat by omega,← h1]
  ·cases h
 enc {x} h:=⟨by rw [r9];trivial,by rw [H9];exact Z5 h⟩
def Gj:Co (List Int) where
 e:=fun l=> .c (.r .i64 l)
 p:=Dg
 v a:=vD a=true
 dv a:=inferInstance
 t:=tY
 some {a} h:=by
  unfold vD at h
  split at h
  ·exact ⟨rfl,of_decide_eq_true h⟩
  ·cases h
 enc {x} h:=⟨by rw [aAv];exact h,rfl⟩
def lD:Co Int where
 e:=dO
 p:=fun _=>True
 v a:=vB a=true
 dv a:=inferInstance
 t:=tB
 some {a} h:=by
  refine ⟨vG ?_,trivial⟩
  unfold vB at h
  split at h
  ·have h:=of_decide_eq_true h
   simp only [dB]
   rw [if_pos h]
   rfl
  ·cases h
 enc {x} h:=⟨by show vB (.g [.v (.bool (eJ x)),.r .i64 (dg x)])=true;rw [W7];trivial,aAs⟩
theorem aHS {z:Int} : Il.e z = .c (.r .i64 (dg z)):=_root_.id rfl
theorem aQa {l:List Int} : Gj.e l = .c (.r .i64 l):=_root_.id rfl
theorem aNY {z:Int} : lD.e z = .g [.v (.bool (eJ z)),.r .i64 (dg z)]:=_root_.id rfl
theorem aCV {z:Int} : Il.p z=(0<=z):=_root_.id rfl
theorem aFg {l:List Int} : Gj.p l=Dg l:=_root_.id rfl
theorem aKz {z:Int} : lD.p z=True:=_root_.id rfl
theorem aEL {a:AP} : Il.v a=(vN a=true):=_root_.id rfl
theorem aK9 {a:AP} : Gj.v a=(vD a=true):=_root_.id rfl
theorem aMw {a:AP} : lD.v a=(vB a=true):=_root_.id rfl
theorem aQP {a:AP} : Il.t a=tN a:=_root_.id rfl
theorem aBY {a:AP} : Gj.t a=tY a:=_root_.id rfl
theorem aCm {a:AP} : lD.t a=tB a:=_root_.id rfl
attribute [simp] Z5 r9 aKn H9 aQw aAv aLb aEz aHS aQa aNY aCV aFg aKz aEL aK9 aMw aQP aBY aCm
attribute [simp high] aLN W7 aAs
attribute [simp low] Zx Zk
theorem Wp : ∀ (l:List Int) (k:Nat) (x:Int),k<l.length->val (l.set k x)=val l+(x-l.getD k 0)*65536 ^ k
 | [],k,x,h=>by simp at h
 | d::l,0,x,h=>by simp [val];omega
 | d::l,k+1,x,h=>by
  simp only [List.set_cons_succ,val,List.getD_cons_succ]
  rw [Wp l k x (by simpa using h),Int.pow_succ]
  grind
theorem O3 {l:List Int} (h:Dg l) (k:Nat) {x:Int} (hx:0<=x/\x<65536):Dg (l.set k x):=fun d hd=>by
 rcases List.mem_or_eq_of_mem_set hd with h' | rfl
 ·exact h d h'
 ·exact hx
end Go.VC
namespace Go.Proofs.YtfcbohachbeamaaGreatDoor.E
open Go.VC Go.RowKit
theorem P3 {l:List Int} (hd:Dg l) (n:Nat) (hn:n<=l.length) (hz : ∀ j,n<=j->j<l.length->l.getD j 0=0) (hs:n=0∨l.getD (n-1) 0≠0):l.take n=dg (val l):=by
 rw [aKP hd n hn hz hs]
 unfold dg
 congr 1
 have:=Dj hd
 omega
def vH:List AP->Option AV
 | [a]=>match dR a with
  | some l=>if l.length<=1000000 then some (.o (.c (.r .i64 (dg (val l))))) else none
  | _=>none
 | _=>none
theorem Me:Ok Tryz.prog 68 vH:=eE Tryz.func68 qK.ent qK.aA aH fun av r h=>by
 unfold vH at h
 split at h
 ·split at h
  ·rename_i a x1 l hl
   split at h
   ·rename_i hlen
    cases h
    obtain ⟨rfl,hd⟩:=Fe hl
    refine ⟨by simp [qK.c],l.length+1,?_⟩
    simp [qK.c]
    refine Ee (fun n s=>s.tm 0 = .o (.c (.r .i64 l))/\s.tm 3 = .o (iv .i64 (n:Int))/\n<=l.length /\ ∀ j,n<=j->j<l.length->l.getD j 0=0) (fun n s hI=> ?_) (l.length+1) l.length _ (by omega) ⟨by simp,by simp,Nat.le_refl _,fun j h1 h2=>by omega⟩
    obtain ⟨t0,t3,hn,hz⟩:=hI
    by_cases h0:n=0
    ·subst h0
     have ht:=P3 hd 0 hn hz (.inl rfl)
     simp [qK.l1,t0,t3]
     simpa using ht
    ·obtain ⟨m,rfl⟩ : ∃ m,n=m+1:=⟨n-1,by omega⟩
     have w1:IntKind.i64.wrap (m:Int)=m:=aD (by omega) (by omega)
     have c1:(0:Int)<(m:Int)+1:=by omega
     have c2:m<l.length:=by omega
     simp at t3
     by_cases hz0:l.getD m 0=0
     ·have hz0':=hz0
      rw [List.getD_eq_getElem?_getD] at hz0'
      have hz1:l[m]=0:=by simpa [c2] using hz0'
      simp [qK.l1,t0,t3,w1,c1,c2,hz1]
      refine ⟨m,by omega,rfl,by omega,fun j h1 h2=> ?_⟩
      by_cases hj:j=m
      ·subst hj;exact hz0'
      ·have:=hz j (by omega) h2
       simpa using this
     ·have hz0':=hz0
      rw [List.getD_eq_getElem?_getD] at hz0'
      have ht:=P3 hd (m+1) hn hz (.inr (by simpa using hz0))
      have c3:(m:Int)+1<=l.length:=by omega
      have c4:(0:Int)<=(m:Int)+1:=by omega
      have hz1 : ¬ l[m]=0:=by simpa [c2] using hz0'
      have e2:((m:Int)+1).toNat=m+1:=by omega
      simp [qK.l1,t0,t3,w1,c1,c2,c3,c4,e2,hz1,ht]
   ·cases h
  ·cases h
 ·cases h
end Go.Proofs.YtfcbohachbeamaaGreatDoor.E
namespace Go.Proofs.YtfcbohachbeamaaGreatDoor.E
open Go.VC Go.RowKit
theorem I7 : ∀ {l:List Int},Dg l->fK l->l ≠ []->(65536:Int) ^ (l.length-1)<=val l
 | [],_,_,h=>absurd rfl h
 | [d],hd,ht,_=>by
  have h1:=hd d (by simp)
  have h2:d≠0:=fun h=>by subst h;simp [fK] at ht
  simp [val];omega
 | d::e::l,hd,ht,_=>by
  have ht':fK (e::l):=by unfold fK at ht ⊢;rwa [List.getLast?_cons_cons] at ht
  have ih:=I7 (l:=e::l) (fun x hx=>hd x (by simp [hx])) ht' (by simp)
  have h1:=hd d (by simp)
  have e1:(d::e::l).length-1=(e::l).length-1+1:=by simp
  rw [e1,Int.pow_succ]
  rw [val];omega
theorem Xg {a b:List Int} (ha:Dg a) (hb:Dg b) (ht:fK b) (hl:a.length<b.length):val a<val b:=by
 have h1:=Ht ha
 have h2:=I7 hb ht (fun h=>by rw [h] at hl;simp at hl)
 have h3:(65536:Int) ^ a.length<=65536 ^ (b.length-1):=by
  have h:(65536:Nat) ^ a.length<=65536 ^ (b.length-1):=Nat.pow_le_pow_right (by decide) (by omega)
  have e : ∀ k:Nat,(((65536:Nat) ^ k:Nat):Int)=(65536:Int) ^ k:=fun k=>by
   induction k with
   | zero=>rfl
   | succ k ih=>rw [Nat.pow_succ,Int.pow_succ,← ih,Int.natCast_mul];rfl
  rw [← e,← e]
  exact Int.ofNat_le.2 h
 omega
theorem A6 {a b:List Int} (ha:Dg a) (hb:Dg b) (i:Nat) (hia:i<a.length) (hib:i<b.length) (hd:a.drop (i+1)=b.drop (i+1)) (hlt:a.getD i 0<b.getD i 0):val a<val b:=by
 rw [Ti a i (by omega),Ti b i (by omega),Ur a i hia,Ur b i hib,hd]
 have h1:=Ht (Qt i ha)
 rw [List.length_take,Nat.min_eq_left (by omega)] at h1
 have h2:=Dj (Qt i hb)
 generalize val (b.drop (i+1))=D
 have h0:(0:Int)<=65536 ^ i:=Int.le_of_lt (Int.pow_pos (by decide))
 have h3:(65536:Int) ^ i*(a.getD i 0+65536*D)+65536 ^ i<=65536 ^ i*(b.getD i 0+65536*D):=by
  have:(65536:Int) ^ i*(a.getD i 0+65536*D+1)<=65536 ^ i*(b.getD i 0+65536*D):=Int.mul_le_mul_of_nonneg_left (by omega) h0
  rw [Int.mul_add,Int.mul_one] at this
  exact this
 omega
def xH:List AP->Option AV
 | [a,b]=>match dR a,dR b with
  | some x,some y=>if fK x/\fK y/\x.length<=1000000/\y.length<=1000000 then some (.o (iv .i64 (bI (val x) (val y)))) else none
  | _,_=>none
 | _=>none
theorem v7:Ok Tryz.prog 46 xH:=eE Tryz.func46 mC.ent mC.aA aH fun av r h=>by
 unfold xH at h
 split at h
 ·split at h
  ·rename_i a b x1 x2 x y hx hy
   split at h
   ·rename_i hlen
    cases h
    obtain ⟨rfl,hdx⟩:=Fe hx
    obtain ⟨rfl,hdy⟩:=Fe hy
    obtain ⟨htx,hty,hlx,hly⟩:=hlen
    refine ⟨by simp [mC.c],x.length+1,?_⟩
    by_cases hne:x.length=y.length
    ·have w1:IntKind.i64.wrap ((x.length:Int)-1)=(x.length:Int)-1:=aD (by omega) (by omega)
     simp [mC.c,hne]
     rw [hne] at w1
     simp [w1]
     refine Ee (fun n s=>s.tm 0 = .o (.c (.r .i64 x))/\s.tm 1 = .o (.c (.r .i64 y))/\s.tm 5 = .o (iv .i64 ((n:Int)-1))/\n<=y.length/\x.drop n=y.drop n) (fun n s hI=> ?_) (y.length+1) y.length _ (by omega) ⟨by simp,by simp,by simp,Nat.le_refl _,by rw [List.drop_eq_nil_of_le (by omega),List.drop_eq_nil_of_le (by omega)]⟩
     obtain ⟨t0,t1,t5,hn,hdr⟩:=hI
     cases n with
     | zero=>
      have e:x=y:=by simpa using hdr
      subst e
      simp at t5
      simp [mC.l1,t0,t1,t5,bI]
     | succ m=>
      simp at t5
      have c2:m<y.length:=by omega
      have c3:m<x.length:=by omega
      have w2:IntKind.i64.wrap ((m:Int)-1)=(m:Int)-1:=aD (by omega) (by omega)
      have g1:x.getD m 0=x[m]:=by simp [List.getD_eq_getElem?_getD,c3]
      have g2:y.getD m 0=y[m]:=by simp [List.getD_eq_getElem?_getD,c2]
      rcases Int.lt_trichotomy x[m] y[m] with h1 | h1 | h1
      ·have hv:=A6 hdx hdy m c3 c2 hdr (by rw [g1,g2];exact h1)
       have e:bI (val x) (val y) = -1:=by unfold bI;rw [if_neg (by omega),if_pos hv]
       simp [mC.l1,t0,t1,t5,c2,c3,h1,e]
      ·have h2 : ¬ x[m]<y[m]:=by omega
       have h3 : ¬ y[m]<x[m]:=by omega
       simp [mC.l1,t0,t1,t5,c2,c3,h2,h3,w2]
       refine ⟨m,by omega,rfl,by omega,?_⟩
       rw [List.drop_eq_getElem_cons c3,List.drop_eq_getElem_cons c2,h1,hdr]
      ·have h2 : ¬ x[m]<y[m]:=by omega
       have hv:=A6 hdy hdx m c2 c3 hdr.symm (by rw [g1,g2];exact h1)
       have e:bI (val x) (val y)=1:=by unfold bI;rw [if_neg (by omega),if_neg (by omega)]
       simp [mC.l1,t0,t1,t5,c2,c3,h2,h1,e]
    ·by_cases hlt:x.length<y.length
     ·have hv:=Xg hdx hdy hty hlt
      have e:bI (val x) (val y) = -1:=by unfold bI;rw [if_neg (by omega),if_pos hv]
      have hne' : ¬ (x.length:Int)=y.length:=by omega
      simp [mC.c,hne,hne',hlt,e]
     ·have hv:=Xg hdy hdx htx (by omega)
      have e:bI (val x) (val y)=1:=by unfold bI;rw [if_neg (by omega),if_neg (by omega)]
      have hne' : ¬ (x.length:Int)=y.length:=by omega
      simp [mC.c,hne,hne',hlt,e]
   ·cases h
  ·cases h
 ·cases h
end Go.Proofs.YtfcbohachbeamaaGreatDoor.E
namespace Go.Proofs.YtfcbohachbeamaaGreatDoor.E
open Go.VC Go.RowKit
def ci (l:List Int):List AC:=l.map fun x=> .v (.int .i64 x)
theorem lJ (l:List Int):(ci l).length=l.length:=by simp [ci]
theorem sY (l:List Int):(ci l).take l.length=ci l:=by rw [← lJ];exact List.take_length
theorem yD (l:List Int) (ns:List Nat):(ci l).map (AC.kill ns)=ci l:=by simp [ci,AC.kill]
theorem Rz (l:List Int) (x:Int):ci (l ++ [x])=ci l ++ [.v (.int .i64 x)]:=by simp [ci]
theorem yO:ci [] = []:=rfl
theorem Pb : ∀ l:List Int,rQ .i64 (ci l)=some l
 | []=>rfl
 | x::l=>by
  have:=Pb l
  simp only [ci,List.map_cons,rQ] at this ⊢
  simp [this]
theorem Lu (l:List Int) (x:Int):val (l ++ [x])=val l+65536 ^ l.length*x:=by rw [Tq];simp [val]
def Mg:List AP->Option AV
 | [a,b]=>match dR a,dR b with
  | some x,some y=>if x.length<=100000/\y.length<=100000 then some (.o (.c (.r .i64 (dg (val x+val y))))) else none
  | _,_=>none
 | _=>none
def Np (x y:List Int) (i:Nat) (s:St):Prop:=
 s.tm 0 = .o (.c (.r .i64 x))/\s.tm 1 = .o (.c (.r .i64 y))/\s.tm 7 = .o (iv .i64 (i:Int))/\s.mem 47=none /\ ∃ (c:Int) (out:List Int),s.tm 6 = .o (iv .i64 c)/\0<=c/\c<=1/\out.length=i/\Dg out /\
  val out+65536 ^ i*(c+val (x.drop i)+val (y.drop i))=val x+val y /\
  ((i=0/\s.tm 5 = .o (.c (.nil .i64))/\s.mem 48=none)∨(i≠0/\s.tm 5 = .o (.c (.s ⟨3,1,some .i64⟩ 48 i))/\s.mem 48=some (ci out)))
theorem yM (l:List Int) (i:Nat):val (l.drop i)=l.getD i 0+65536*val (l.drop (i+1)):=by
 by_cases h:i<l.length
 ·exact Ur l i h
 ·rw [List.drop_eq_nil_of_le (by omega),List.drop_eq_nil_of_le (by omega),List.getD_eq_getElem?_getD,List.getElem?_eq_none (by omega)]
  rfl
theorem zL {x y out:List Int} {i:Nat} {s':St} {c c':Int} (hx:Dg x) (hy:Dg y) (h0:s'.tm 0 = .o (.c (.r .i64 x))) (h1:s'.tm 1 = .o (.c (.r .i64 y))) (h7:s'.tm 7 = .o (iv .i64 ((i:Int)+1))) (dY:s'.mem 47=none)
 (t6:s'.tm 6 = .o (iv .i64 (c'/65536))) (t5:s'.tm 5 = .o (.c (.s ⟨3,1,some .i64⟩ 48 (i+1)))) (m48:s'.mem 48=some (ci out ++ [.v (.int .i64 (c'%65536))]))
 (hc:c'=c+x.getD i 0+y.getD i 0) (c0:0<=c) (c1:c<=1) (ho:out.length=i) (hdo:Dg out) (hv:val out+65536 ^ i*(c+val (x.drop i)+val (y.drop i))=val x+val y):Np x y (i+1) s':=by
 have g1:=gK hx i
 have g2:=gK hy i
 refine ⟨h0,h1,by rw [h7];simp,dY,c'/65536,out ++ [c'%65536],t6,by omega,by omega,by simp [ho],?_,?_,.inr ⟨by omega,t5,by rw [m48,Rz]⟩⟩
 ·exact Ty hdo (fun d hd=>by simp at hd;omega)
 ·rw [Lu,ho,← hv,yM x i,yM y i,Int.pow_succ]
  have e:c'=c'/65536*65536+c'%65536:=by omega
  generalize hA:val (x.drop (i+1))=A
  generalize hB:val (y.drop (i+1))=B
  generalize c'/65536=q at *
  generalize c'%65536=t at *
  generalize x.getD i 0=xi at *
  generalize y.getD i 0=yi at *
  have e2:c+(xi+65536*A)+(yi+65536*B)=q*65536+t+65536*A+65536*B:=by omega
  rw [e2]
  grind
theorem Is {a:Int} (h:0<=a):a.tdiv 65536=a/65536:=Int.tdiv_eq_ediv_of_nonneg h
theorem Kl {a:Int} (h:0<=a):a.tmod 65536=a%65536:=Int.tmod_eq_emod_of_nonneg h
theorem aF4 (K:Nat) (x y:List Int) (hx:Dg x) (hy:Dg y) (hlx:x.length<=100000) (hly:y.length<=100000) (i:Nat) (s:St) (hI:Np x y i s) (hgo:i<x.length∨i<y.length ∨ ∃ c,s.tm 6 = .o (iv .i64 c)/\0<c) (hi:i<=200000) :
 cO (bQ (gV [(68,vH)]) K iT.l1 s) (fun ax s'=>match ax with | .n=>Np x y (i+1) s' | ax=>False):=by
 obtain ⟨t0,t1,t7,dY,c,out,t6,c0,c1,ho,hdo,hv,hrow⟩:=hI
 have wi:IntKind.i64.wrap ((i:Int)+1)=(i:Int)+1:=aD (by omega) (by omega)
 have g1:=gK hx i
 have g2:=gK hy i
 by_cases hix:i<x.length
 ·by_cases hiy:i<y.length
  ·skip
   have gx:x.getD i 0=x[i]:=by simp [List.getD_eq_getElem?_getD,hix]
   have gy:y.getD i 0=y[i]:=by simp [List.getD_eq_getElem?_getD,hiy]
   rw [gx] at g1
   rw [gy] at g2
   have wa:IntKind.i64.wrap (c+x[i])=c+x[i]:=aD (by omega) (by omega)
   have wb:IntKind.i64.wrap (c+x[i]+y[i])=c+x[i]+y[i]:=aD (by omega) (by omega)
   have wd1:(c+x[i]+y[i]).tdiv 65536=(c+x[i]+y[i])/65536:=Is (by omega)
   have wm:(c+x[i]+y[i]).tmod 65536=(c+x[i]+y[i])%65536:=Kl (by omega)
   have wq:IntKind.i64.wrap ((c+x[i]+y[i])/65536)=(c+x[i]+y[i])/65536:=aD (by omega) (by omega)
   rcases hrow with ⟨hi0,t5,m48⟩ | ⟨hi0,t5,m48⟩
   ·have hout:out = []:=List.eq_nil_of_length_eq_zero (by omega)
    subst hout
    simp [iT.l1,t0,t1,t5,t6,t7,dY,m48,hix,hiy,wi,wa,wb,wd1,wm,wq,fY,fE,St.drop,AC.kill,AP.kill,AV.kill]
    refine zL (c:=c) (c':=c+x[i]+y[i]) (out:= []) hx hy (by simp [t0]) (by simp [t1]) (by simp) (by simp) (by simp) (by simp [hi0]) (by simp [yO]) (by rw [gx,gy]) c0 c1 ho hdo hv
   ·have hb:i+1<=1000000000000:=by omega
    have hlo:i<=(ci out).length:=by rw [lJ];omega
    have htk:(ci out).take i=ci out:=by rw [← ho];exact sY out
    simp [iT.l1,t0,t1,t5,t6,t7,dY,m48,hix,hiy,wi,wa,wb,wd1,wm,wq,fY,fE,St.drop,AC.kill,AP.kill,AV.kill,hb,hlo,htk,yD]
    refine zL (c:=c) (c':=c+x[i]+y[i]) (out:=out) hx hy (by simp [t0]) (by simp [t1]) (by simp) (by simp) (by simp) (by simp) (by simp [ci]) (by rw [gx,gy]) c0 c1 ho hdo hv
  ·skip
   have gx:x.getD i 0=x[i]:=by simp [List.getD_eq_getElem?_getD,hix]
   have gy:y.getD i 0=0:=by rw [List.getD_eq_getElem?_getD,List.getElem?_eq_none (by omega)];rfl
   rw [gx] at g1
   rw [gy] at g2
   have wa:IntKind.i64.wrap (c+x[i])=c+x[i]:=aD (by omega) (by omega)
   have wd1:(c+x[i]).tdiv 65536=(c+x[i])/65536:=Is (by omega)
   have wm:(c+x[i]).tmod 65536=(c+x[i])%65536:=Kl (by omega)
   have wq:IntKind.i64.wrap ((c+x[i])/65536)=(c+x[i])/65536:=aD (by omega) (by omega)
   rcases hrow with ⟨hi0,t5,m48⟩ | ⟨hi0,t5,m48⟩
   ·have hout:out = []:=List.eq_nil_of_length_eq_zero (by omega)
    subst hout
    simp [iT.l1,t0,t1,t5,t6,t7,dY,m48,hix,hiy,wi,wa,wd1,wm,wq,fY,fE,St.drop,AC.kill,AP.kill,AV.kill]
    refine zL (c:=c) (c':=c+x[i]) (out:= []) hx hy (by simp [t0]) (by simp [t1]) (by simp) (by simp) (by simp) (by simp [hi0]) (by simp [yO]) (by rw [gx,gy];omega) c0 c1 ho hdo hv
   ·have hb:i+1<=1000000000000:=by omega
    have hlo:i<=(ci out).length:=by rw [lJ];omega
    have htk:(ci out).take i=ci out:=by rw [← ho];exact sY out
    simp [iT.l1,t0,t1,t5,t6,t7,dY,m48,hix,hiy,wi,wa,wd1,wm,wq,fY,fE,St.drop,AC.kill,AP.kill,AV.kill,hb,hlo,htk,yD]
    refine zL (c:=c) (c':=c+x[i]) (out:=out) hx hy (by simp [t0]) (by simp [t1]) (by simp) (by simp) (by simp) (by simp) (by simp [ci]) (by rw [gx,gy];omega) c0 c1 ho hdo hv
 ·by_cases hiy:i<y.length
  ·skip
   have gx:x.getD i 0=0:=by rw [List.getD_eq_getElem?_getD,List.getElem?_eq_none (by omega)];rfl
   have gy:y.getD i 0=y[i]:=by simp [List.getD_eq_getElem?_getD,hiy]
   rw [gx] at g1
   rw [gy] at g2
   have wb:IntKind.i64.wrap (c+y[i])=c+y[i]:=aD (by omega) (by omega)
   have wd1:(c+y[i]).tdiv 65536=(c+y[i])/65536:=Is (by omega)
   have wm:(c+y[i]).tmod 65536=(c+y[i])%65536:=Kl (by omega)
   have wq:IntKind.i64.wrap ((c+y[i])/65536)=(c+y[i])/65536:=aD (by omega) (by omega)
   rcases hrow with ⟨hi0,t5,m48⟩ | ⟨hi0,t5,m48⟩
   ·have hout:out = []:=List.eq_nil_of_length_eq_zero (by omega)
    subst hout
    simp [iT.l1,t0,t1,t5,t6,t7,dY,m48,hix,hiy,wi,wb,wd1,wm,wq,fY,fE,St.drop,AC.kill,AP.kill,AV.kill]
    refine zL (c:=c) (c':=c+y[i]) (out:= []) hx hy (by simp [t0]) (by simp [t1]) (by simp) (by simp) (by simp) (by simp [hi0]) (by simp [yO]) (by rw [gx,gy];omega) c0 c1 ho hdo hv
   ·have hb:i+1<=1000000000000:=by omega
    have hlo:i<=(ci out).length:=by rw [lJ];omega
    have htk:(ci out).take i=ci out:=by rw [← ho];exact sY out
    simp [iT.l1,t0,t1,t5,t6,t7,dY,m48,hix,hiy,wi,wb,wd1,wm,wq,fY,fE,St.drop,AC.kill,AP.kill,AV.kill,hb,hlo,htk,yD]
    refine zL (c:=c) (c':=c+y[i]) (out:=out) hx hy (by simp [t0]) (by simp [t1]) (by simp) (by simp) (by simp) (by simp) (by simp [ci]) (by rw [gx,gy];omega) c0 c1 ho hdo hv
  ·skip
   have gx:x.getD i 0=0:=by rw [List.getD_eq_getElem?_getD,List.getElem?_eq_none (by omega)];rfl
   have gy:y.getD i 0=0:=by rw [List.getD_eq_getElem?_getD,List.getElem?_eq_none (by omega)];rfl
   rw [gx] at g1
   rw [gy] at g2
   have wd1:(c).tdiv 65536=(c)/65536:=Is (by omega)
   have wm:(c).tmod 65536=(c)%65536:=Kl (by omega)
   have wq:IntKind.i64.wrap ((c)/65536)=(c)/65536:=aD (by omega) (by omega)
   have hc:0<c:=by
    rcases hgo with h | h | ⟨c2,h,hp⟩
    ·omega
    ·omega
    ·rw [t6] at h;simp at h;omega
   rcases hrow with ⟨hi0,t5,m48⟩ | ⟨hi0,t5,m48⟩
   ·have hout:out = []:=List.eq_nil_of_length_eq_zero (by omega)
    subst hout
    simp [iT.l1,t0,t1,t5,t6,t7,dY,m48,hix,hiy,wi,wd1,wm,wq,hc,fY,fE,St.drop,AC.kill,AP.kill,AV.kill]
    refine zL (c:=c) (c':=c) (out:= []) hx hy (by simp [t0]) (by simp [t1]) (by simp) (by simp) (by simp) (by simp [hi0]) (by simp [yO]) (by rw [gx,gy];omega) c0 c1 ho hdo hv
   ·have hb:i+1<=1000000000000:=by omega
    have hlo:i<=(ci out).length:=by rw [lJ];omega
    have htk:(ci out).take i=ci out:=by rw [← ho];exact sY out
    simp [iT.l1,t0,t1,t5,t6,t7,dY,m48,hix,hiy,wi,wd1,wm,wq,hc,fY,fE,St.drop,AC.kill,AP.kill,AV.kill,hb,hlo,htk,yD]
    refine zL (c:=c) (c':=c) (out:=out) hx hy (by simp [t0]) (by simp [t1]) (by simp) (by simp) (by simp) (by simp) (by simp [ci]) (by rw [gx,gy];omega) c0 c1 ho hdo hv
end Go.Proofs.YtfcbohachbeamaaGreatDoor.E
namespace Go.Proofs.YtfcbohachbeamaaGreatDoor.E
open Go.VC Go.RowKit
theorem Uq {i j:Nat} (h:i<=j):(65536:Int) ^ i<=65536 ^ j:=by
 have h1:(65536:Nat) ^ i<=65536 ^ j:=Nat.pow_le_pow_right (by decide) h
 have e : ∀ k:Nat,(((65536:Nat) ^ k:Nat):Int)=(65536:Int) ^ k:=fun k=>by
  induction k with
  | zero=>rfl
  | succ k ih=>rw [Nat.pow_succ,Int.pow_succ,← ih,Int.natCast_mul];rfl
 rw [← e,← e]
 exact Int.ofNat_le.2 h1
theorem aBp (i:Nat):(0:Int)<65536 ^ i:=Int.pow_pos (by decide)
theorem aQS:Ok Tryz.prog 45 Mg:=eE Tryz.func45 iT.ent iT.aA (aB Me aH) fun av r h=>by
 unfold Mg at h
 split at h
 ·split at h
  ·rename_i a b x1 x2 x y hx hy
   split at h
   ·rename_i hlen
    cases h
    obtain ⟨rfl,hdx⟩:=Fe hx
    obtain ⟨rfl,hdy⟩:=Fe hy
    obtain ⟨hlx,hly⟩:=hlen
    obtain ⟨N,hN1,hN2,hN3⟩ : ∃ N,x.length<=N/\y.length<=N/\N<=100000:=⟨max x.length y.length,Nat.le_max_left _ _,Nat.le_max_right _ _,Nat.max_le.2 ⟨hlx,hly⟩⟩
    refine ⟨by simp [iT.c],N+2,?_⟩
    simp [iT.c]
    refine Ee (fun m s=> ∃ i,i+m=N+1/\Np x y i s) (fun m s hI=> ?_) (N+2) (N+1) _ (by omega) ⟨0,by omega,by simp,by simp,by simp,by simp,0,[],by simp,by decide,by decide,rfl,(fun d hd=>by cases hd),by simp [val],.inl ⟨rfl,by simp,by simp⟩⟩
    obtain ⟨i,him,hA⟩:=hI
    have hA':=hA
    obtain ⟨t0,t1,t7,dY,c,out,t6,c0,c1,ho,hdo,hv,hrow⟩:=hA'
    by_cases hgo:i<x.length∨i<y.length∨0<c
    ·have hiN:i<=N:=by
      rcases hgo with h | h | h
      ·omega
      ·omega
      ·rcases Nat.lt_or_ge N i with h2 | h2
       ·exfalso
        rw [List.drop_eq_nil_of_le (by omega),List.drop_eq_nil_of_le (by omega)] at hv
        have hc:c=1:=by omega
        subst hc
        have e1:=Ht hdx
        have e2:=Ht hdy
        have e3:=Uq hN1
        have e4:=Uq hN2
        have e5:=Uq (show N+1<=i by omega)
        rw [Int.pow_succ] at e5
        have e6:=Dj hdo
        have e7:=aBp N
        simp [val] at hv
        omega
       ·exact h2
     refine (aF4 (N+2) x y hdx hdy hlx hly i s hA (by rcases hgo with h | h | h;exact .inl h;exact .inr (.inl h);exact .inr (.inr ⟨c,t6,h⟩)) (by omega)).mono (fun ax s' hh=> ?_)
     cases ax with
     | n=>exact ⟨m-1,by omega,i+1,by omega,hh⟩
     | e _=>exact hh.elim
     | r=>exact hh.elim
    ·have q1 : ¬ i<x.length:=fun h=>hgo (.inl h)
     have q2 : ¬ i<y.length:=fun h=>hgo (.inr (.inl h))
     have q3 : ¬ 0<c:=fun h=>hgo (.inr (.inr h))
     rw [List.drop_eq_nil_of_le (by omega),List.drop_eq_nil_of_le (by omega)] at hv
     have hc:c=0:=by omega
     subst hc
     simp [val] at hv
     rcases hrow with ⟨hi0,t5,m48⟩ | ⟨hi0,t5,m48⟩
     ·have hout:out = []:=List.eq_nil_of_length_eq_zero (by omega)
      subst hout
      simp [val] at hv
      have hd0:dR (.c (.r .i64 []))=some []:=by decide
      simp [iT.l1,t0,t1,t5,t6,t7,q1,q2,vH,hd0,val,← hv]
     ·have hlo:i<=(ci out).length:=by rw [lJ];omega
      have htk:(ci out).take i=ci out:=by rw [← ho];exact sY out
      have hd0:dR (.c (.r .i64 out))=some out:=by simp [dR,hdo]
      have hl2:out.length<=1000000:=by omega
      simp [iT.l1,t0,t1,t5,t6,t7,m48,q1,q2,vH,hd0,hlo,htk,hl2,← hv,St.rel,St.pG,AC.rel,AP.rel,AV.rel,fS,Pb]
   ·cases h
  ·cases h
 ·cases h
end Go.Proofs.YtfcbohachbeamaaGreatDoor.E
namespace Go.Proofs.YtfcbohachbeamaaGreatDoor.E
open Go.VC Go.RowKit
def Br:List AP->Option AV
 | [a,b]=>match dR a,dR b with
  | some x,some y=>if fK y/\val y<=val x/\x.length<=100000/\y.length<=100000 then some (.o (.c (.r .i64 (dg (val x-val y))))) else none
  | _,_=>none
 | _=>none
def Lr (x y:List Int) (i:Nat) (s:St):Prop:=
 s.tm 0 = .o (.c (.r .i64 x))/\s.tm 1 = .o (.c (.r .i64 y))/\s.tm 7 = .o (iv .i64 (i:Int))/\s.mem 37=none /\ ∃ (c:Int) (out:List Int),s.tm 6 = .o (iv .i64 c)/\0<=c/\c<=1/\out.length=i/\Dg out /\
  val out+65536 ^ i*(val (x.drop i)-c-val (y.drop i))=val x-val y /\
  ((i=0/\s.tm 5 = .o (.c (.nil .i64))/\s.mem 38=none)∨(i≠0/\s.tm 5 = .o (.c (.s ⟨3,1,some .i64⟩ 38 i))/\s.mem 38=some (ci out)))
theorem zN {x y out:List Int} {i:Nat} {s':St} {c c' t:Int} (hx:Dg x) (hy:Dg y) (h0:s'.tm 0 = .o (.c (.r .i64 x))) (h1:s'.tm 1 = .o (.c (.r .i64 y))) (h7:s'.tm 7 = .o (iv .i64 ((i:Int)+1))) (dY:s'.mem 37=none)
 (t6:s'.tm 6 = .o (iv .i64 c')) (t5:s'.tm 5 = .o (.c (.s ⟨3,1,some .i64⟩ 38 (i+1)))) (m48:s'.mem 38=some (ci out ++ [.v (.int .i64 t)]))
 (hc:x.getD i 0-c-y.getD i 0=t-65536*c') (d0:0<=c') (d1:c'<=1) (b0:0<=t) (b1:t<65536) (ho:out.length=i) (hdo:Dg out) (hv:val out+65536 ^ i*(val (x.drop i)-c-val (y.drop i))=val x-val y):Lr x y (i+1) s':=by
 refine ⟨h0,h1,by rw [h7];simp,dY,c',out ++ [t],t6,d0,d1,by simp [ho],?_,?_,.inr ⟨by omega,t5,by rw [m48,Rz]⟩⟩
 ·exact Ty hdo (fun d hd=>by simp at hd;omega)
 ·rw [Lu,ho,← hv,yM x i,yM y i,Int.pow_succ]
  generalize hA:val (x.drop (i+1))=A
  generalize hB:val (y.drop (i+1))=B
  generalize x.getD i 0=xi at *
  generalize y.getD i 0=yi at *
  have e2:xi+65536*A-c-(yi+65536*B)=t-65536*c'+65536*A-65536*B:=by omega
  rw [e2]
  grind
theorem aOt (K:Nat) (x y:List Int) (hx:Dg x) (hy:Dg y) (hlx:x.length<=100000) (hly:y.length<=100000) (i:Nat) (s:St) (hI:Lr x y i s) (hix:i<x.length) :
 cO (bQ (gV [(68,vH)]) K iX.l1 s) (fun ax s'=>match ax with | .n=>Lr x y (i+1) s' | ax=>False):=by
 obtain ⟨t0,t1,t7,dY,c,out,t6,c0,c1,ho,hdo,hv,hrow⟩:=hI
 have wi:IntKind.i64.wrap ((i:Int)+1)=(i:Int)+1:=aD (by omega) (by omega)
 have g1:=gK hx i
 have g2:=gK hy i
 have gx:x.getD i 0=x[i]:=by simp [List.getD_eq_getElem?_getD,hix]
 rw [gx] at g1
 have wa:IntKind.i64.wrap (x[i]-c)=x[i]-c:=aD (by omega) (by omega)
 by_cases hiy:i<y.length
 ·skip
  have gy:y.getD i 0=y[i]:=by simp [List.getD_eq_getElem?_getD,hiy]
  rw [gy] at g2
  by_cases hn:x[i]-c-y[i]<0
  ·skip
   have wb:IntKind.i64.wrap (x[i]-c-y[i])=x[i]-c-y[i]:=aD (by omega) (by omega)
   have wn:IntKind.i64.wrap (x[i]-c-y[i]+65536)=x[i]-c-y[i]+65536:=aD (by omega) (by omega)
   rcases hrow with ⟨hi0,t5,m48⟩ | ⟨hi0,t5,m48⟩
   ·have hout:out = []:=List.eq_nil_of_length_eq_zero (by omega)
    subst hout
    simp [iX.l1,t0,t1,t5,t6,t7,dY,m48,hix,hiy,wi,wa,wb,wn,hn,fY,fE,St.drop,AC.kill,AP.kill,AV.kill]
    refine zN (c:=c) (c':=1) (t:=x[i]-c-y[i]+65536) (out:= []) hx hy (by simp [t0]) (by simp [t1]) (by simp) (by simp) (by simp) (by simp [hi0]) (by simp [yO]) (by rw [gx,gy];omega) (by decide) (by decide) (by omega) (by omega) ho hdo hv
   ·have hb:i+1<=1000000000000:=by omega
    have hlo:i<=(ci out).length:=by rw [lJ];omega
    have htk:(ci out).take i=ci out:=by rw [← ho];exact sY out
    simp [iX.l1,t0,t1,t5,t6,t7,dY,m48,hix,hiy,wi,wa,wb,wn,hn,fY,fE,St.drop,AC.kill,AP.kill,AV.kill,hb,hlo,htk,yD]
    refine zN (c:=c) (c':=1) (t:=x[i]-c-y[i]+65536) (out:=out) hx hy (by simp [t0]) (by simp [t1]) (by simp) (by simp) (by simp) (by simp) (by simp [ci]) (by rw [gx,gy];omega) (by decide) (by decide) (by omega) (by omega) ho hdo hv
  ·skip
   have wb:IntKind.i64.wrap (x[i]-c-y[i])=x[i]-c-y[i]:=aD (by omega) (by omega)
   rcases hrow with ⟨hi0,t5,m48⟩ | ⟨hi0,t5,m48⟩
   ·have hout:out = []:=List.eq_nil_of_length_eq_zero (by omega)
    subst hout
    simp [iX.l1,t0,t1,t5,t6,t7,dY,m48,hix,hiy,wi,wa,wb,hn,fY,fE,St.drop,AC.kill,AP.kill,AV.kill]
    refine zN (c:=c) (c':=0) (t:=x[i]-c-y[i]) (out:= []) hx hy (by simp [t0]) (by simp [t1]) (by simp) (by simp) (by simp) (by simp [hi0]) (by simp [yO]) (by rw [gx,gy];omega) (by decide) (by decide) (by omega) (by omega) ho hdo hv
   ·have hb:i+1<=1000000000000:=by omega
    have hlo:i<=(ci out).length:=by rw [lJ];omega
    have htk:(ci out).take i=ci out:=by rw [← ho];exact sY out
    simp [iX.l1,t0,t1,t5,t6,t7,dY,m48,hix,hiy,wi,wa,wb,hn,fY,fE,St.drop,AC.kill,AP.kill,AV.kill,hb,hlo,htk,yD]
    refine zN (c:=c) (c':=0) (t:=x[i]-c-y[i]) (out:=out) hx hy (by simp [t0]) (by simp [t1]) (by simp) (by simp) (by simp) (by simp) (by simp [ci]) (by rw [gx,gy];omega) (by decide) (by decide) (by omega) (by omega) ho hdo hv
 ·skip
  have gy:y.getD i 0=0:=by rw [List.getD_eq_getElem?_getD,List.getElem?_eq_none (by omega)];rfl
  rw [gy] at g2
  by_cases hn:x[i]-c<0
  ·skip
   have wn:IntKind.i64.wrap (x[i]-c+65536)=x[i]-c+65536:=aD (by omega) (by omega)
   rcases hrow with ⟨hi0,t5,m48⟩ | ⟨hi0,t5,m48⟩
   ·have hout:out = []:=List.eq_nil_of_length_eq_zero (by omega)
    subst hout
    simp [iX.l1,t0,t1,t5,t6,t7,dY,m48,hix,hiy,wi,wa,wn,hn,fY,fE,St.drop,AC.kill,AP.kill,AV.kill]
    refine zN (c:=c) (c':=1) (t:=x[i]-c+65536) (out:= []) hx hy (by simp [t0]) (by simp [t1]) (by simp) (by simp) (by simp) (by simp [hi0]) (by simp [yO]) (by rw [gx,gy];omega) (by decide) (by decide) (by omega) (by omega) ho hdo hv
   ·have hb:i+1<=1000000000000:=by omega
    have hlo:i<=(ci out).length:=by rw [lJ];omega
    have htk:(ci out).take i=ci out:=by rw [← ho];exact sY out
    simp [iX.l1,t0,t1,t5,t6,t7,dY,m48,hix,hiy,wi,wa,wn,hn,fY,fE,St.drop,AC.kill,AP.kill,AV.kill,hb,hlo,htk,yD]
    refine zN (c:=c) (c':=1) (t:=x[i]-c+65536) (out:=out) hx hy (by simp [t0]) (by simp [t1]) (by simp) (by simp) (by simp) (by simp) (by simp [ci]) (by rw [gx,gy];omega) (by decide) (by decide) (by omega) (by omega) ho hdo hv
  ·skip
   rcases hrow with ⟨hi0,t5,m48⟩ | ⟨hi0,t5,m48⟩
   ·have hout:out = []:=List.eq_nil_of_length_eq_zero (by omega)
    subst hout
    simp [iX.l1,t0,t1,t5,t6,t7,dY,m48,hix,hiy,wi,wa,hn,fY,fE,St.drop,AC.kill,AP.kill,AV.kill]
    refine zN (c:=c) (c':=0) (t:=x[i]-c) (out:= []) hx hy (by simp [t0]) (by simp [t1]) (by simp) (by simp) (by simp) (by simp [hi0]) (by simp [yO]) (by rw [gx,gy];omega) (by decide) (by decide) (by omega) (by omega) ho hdo hv
   ·have hb:i+1<=1000000000000:=by omega
    have hlo:i<=(ci out).length:=by rw [lJ];omega
    have htk:(ci out).take i=ci out:=by rw [← ho];exact sY out
    simp [iX.l1,t0,t1,t5,t6,t7,dY,m48,hix,hiy,wi,wa,hn,fY,fE,St.drop,AC.kill,AP.kill,AV.kill,hb,hlo,htk,yD]
    refine zN (c:=c) (c':=0) (t:=x[i]-c) (out:=out) hx hy (by simp [t0]) (by simp [t1]) (by simp) (by simp) (by simp) (by simp) (by simp [ci]) (by rw [gx,gy];omega) (by decide) (by decide) (by omega) (by omega) ho hdo hv
theorem aOg:Ok Tryz.prog 47 Br:=eE Tryz.func47 iX.ent iX.aA (aB Me aH) fun av r h=>by
 unfold Br at h
 split at h
 ·split at h
  ·rename_i a b x1 x2 x y hx hy
   split at h
   ·rename_i hlen
    cases h
    obtain ⟨rfl,hdx⟩:=Fe hx
    obtain ⟨rfl,hdy⟩:=Fe hy
    obtain ⟨hty,hle,hlx,hly⟩:=hlen
    have hyx:y.length<=x.length:=by
     rcases Nat.lt_or_ge x.length y.length with h | h
     ·have:=Xg hdx hdy hty h;omega
     ·exact h
    refine ⟨by simp [iX.c],x.length+1,?_⟩
    simp [iX.c]
    refine Ly (Lr x y) x.length (fun i s hi hI=>(aOt _ x y hdx hdy hlx hly i s hI hi).mono (fun ax s' hh=> ?_)) (fun s hI=> ?_) (x.length+1) 0 _ (by omega) (by omega) ⟨by simp,by simp,by simp,by simp,0,[],by simp,by decide,by decide,rfl,(fun d hd=>by cases hd),by simp [val],.inl ⟨rfl,by simp,by simp⟩⟩
    ·cases ax with
     | n=>exact hh
     | e _=>exact hh.elim
     | r=>exact hh.elim
    ·obtain ⟨t0,t1,t7,dY,c,out,t6,c0,c1,ho,hdo,hv,hrow⟩:=hI
     rw [List.drop_eq_nil_of_le (by omega),List.drop_eq_nil_of_le (by omega)] at hv
     have e1:=Ht hdo
     rw [ho] at e1
     have hc:c=0:=by
      have:c=0∨c=1:=by omega
      rcases this with h | h
      ·exact h
      ·subst h;simp [val] at hv;omega
     subst hc
     simp [val] at hv
     rcases hrow with ⟨hi0,t5,m48⟩ | ⟨hi0,t5,m48⟩
     ·have hout:out = []:=List.eq_nil_of_length_eq_zero (by omega)
      subst hout
      simp [val] at hv
      have hd0:dR (.c (.r .i64 []))=some []:=by decide
      simp [iX.l1,t0,t1,t5,t6,t7,vH,hd0,val,← hv]
     ·have hlo:x.length<=(ci out).length:=by rw [lJ];omega
      have htk:(ci out).take x.length=ci out:=by rw [← ho];exact sY out
      have hd0:dR (.c (.r .i64 out))=some out:=by simp [dR,hdo]
      have hl2:out.length<=1000000:=by omega
      simp [iX.l1,t0,t1,t5,t6,t7,m48,vH,hd0,hlo,htk,hl2,← hv,St.rel,St.pG,AC.rel,AP.rel,AV.rel,fS,Pb]
   ·cases h
  ·cases h
 ·cases h
end Go.Proofs.YtfcbohachbeamaaGreatDoor.E
namespace Go.Proofs.YtfcbohachbeamaaGreatDoor.E
open Go.VC Go.RowKit
theorem gI {z:Int} (h:0<=z):eJ z=false:=by unfold eJ;simp;omega
theorem gT {z:Int} (h:z<0):eJ z=true:=by unfold eJ;simp;omega
def Nw:List AP->Option AV
 | [.c (.v (.int .u64 n))]=>if 0<=n/\n<0x10000000000000000 then some (.o (dO n)) else none
 | _=>none
theorem Y5:Ok Tryz.prog 40 Nw:=eE Tryz.func40 Bw.ent Bw.aA (aB Me aH) fun av r h=>by
 unfold Nw at h
 split at h
 ·rename_i n
  split at h
  ·rename_i hn
   cases h
   refine ⟨by simp [Bw.c],0,?_⟩
   have a1:cX .and .u64 n 65535=n%65536:=Ki 16 (by omega) (by omega) (by decide) (by decide)
   have a2:cX .and .u64 (n.fdiv 65536) 65535=n/65536%65536:=by rw [qX (by decide)];exact Ki 16 (by omega) (by omega) (by decide) (by decide)
   have a3:cX .and .u64 (n.fdiv 4294967296) 65535=n/4294967296%65536:=by rw [qX (by decide)];exact Ki 16 (by omega) (by omega) (by decide) (by decide)
   have a4:n.fdiv 281474976710656=n/281474976710656:=qX (by decide)
   have w1:IntKind.i64.wrap (n%65536)=n%65536:=aD (by omega) (by omega)
   have w2:IntKind.i64.wrap (n/65536%65536)=n/65536%65536:=aD (by omega) (by omega)
   have w3:IntKind.i64.wrap (n/4294967296%65536)=n/4294967296%65536:=aD (by omega) (by omega)
   have w4:IntKind.i64.wrap (n/281474976710656)=n/281474976710656:=aD (by omega) (by omega)
   have hd:dR (.c (.r .i64 [n%65536,n/65536%65536,n/4294967296%65536,n/281474976710656]))=some [n%65536,n/65536%65536,n/4294967296%65536,n/281474976710656]:=by
    simp only [dR]
    have hdg:Dg [n%65536,n/65536%65536,n/4294967296%65536,n/281474976710656]:=fun d hd=>by simp at hd;omega
    rw [if_pos hdg]
   have hv:val [n%65536,n/65536%65536,n/4294967296%65536,n/281474976710656]=n:=by simp only [val];omega
   simp [Bw.c,a1,a2,a3,a4,w1,w2,w3,w4,St.rel,St.pG,AC.rel,AP.rel,AV.rel,fS,rQ,vH,hd,hv,dO,gI hn.1]
  ·cases h
 ·cases h
end Go.Proofs.YtfcbohachbeamaaGreatDoor.E
namespace Go.Proofs.YtfcbohachbeamaaGreatDoor.E
open Go.VC Go.RowKit
def cJ (z:Int):Prop:= -0x10000000000000000000000000000000000000000000000000000000000000000000000000000000000000000000000000000000000000000000000000000000000000000000000000000000000000000<z/\z<0x10000000000000000000000000000000000000000000000000000000000000000000000000000000000000000000000000000000000000000000000000000000000000000000000000000000000000000
instance (z:Int):Decidable (cJ z):=inferInstanceAs (Decidable (_/\_))
theorem Cn {z:Int} (h:cJ z):(dg z).length<=40:=by
 unfold cJ at h
 refine Zo 40 _ ?_
 have e:(65536:Nat) ^ 40=0x10000000000000000000000000000000000000000000000000000000000000000000000000000000000000000000000000000000000000000000000000000000000000000000000000000000000000000:=by decide
 rw [e]
 omega
theorem Ie (z:Int):dg (-z)=dg z:=by unfold dg;rw [Int.natAbs_neg]
theorem aPJ (z:Int):dg (z.natAbs:Int)=dg z:=by unfold dg;rfl
theorem Oo {z:Int} (h:z≠0):0<(dg z).length:=by
 cases hd:dg z with
 | nil=>exact absurd (Ox.1 hd) h
 | cons _ _=>simp
theorem Ra:dg 0 = []:=rS
def Jd:List AP->Option AV
 | [a]=>match dB a with
  | some x=>some (.o (dO (-x)))
  | _=>none
 | _=>none
theorem Ub:Ok Tryz.prog 23 Jd:=eE Tryz.func23 xC.ent xC.aA aH fun av r h=>by
 unfold Jd at h
 split at h
 ·split at h
  ·rename_i a x1 x hx
   cases h
   obtain rfl:=vG hx
   refine ⟨by simp [xC.c],0,?_⟩
   by_cases h1:x<0
   ·have h2:eJ (-x)=false:=gI (by omega)
    simp [xC.c,dO,gT h1,h2,Ie]
   ·by_cases h0:x=0
    ·subst h0
     have h2:eJ 0=false:=gI (by omega)
     simp [xC.c,dO,h2,Ra]
    ·have h2:eJ (-x)=true:=gT (by omega)
     have h3:eJ x=false:=gI (by omega)
     have h4:=Oo h0
     simp [xC.c,dO,h2,h3,h4,Ie]
  ·cases h
 ·cases h
def Mt:List AP->Option AV
 | [a,b]=>match dB a,dB b with
  | some x,some y=>if cJ x/\cJ y then some (.o (iv .i64 (bI x y))) else none
  | _,_=>none
 | _=>none
theorem wB (z:Int) (h:0<=z):val (dg z)=z:=by rw [Al];omega
theorem xR (z:Int) (h:z<0):val (dg z) = -z:=by rw [Al];omega
theorem n8:Ok Tryz.prog 39 Mt:=eE Tryz.func39 uI.ent uI.aA (aB v7 aH) fun av r h=>by
 unfold Mt at h
 split at h
 ·split at h
  ·rename_i a b x1 x2 x y hx hy
   split at h
   ·rename_i hs
    cases h
    obtain rfl:=vG hx
    obtain rfl:=vG hy
    have lx:=Cn hs.1
    have ly:=Cn hs.2
    have kx:(dg x).length<=1000000:=by omega
    have ky:(dg y).length<=1000000:=by omega
    refine ⟨by simp [uI.c],0,?_⟩
    have rx:=Nz x
    have ry:=Nz y
    by_cases h1:x<0<;>by_cases h2:y<0
    ·have e:bI (-y) (-x)=bI x y:=by unfold bI;split<;>split<;>(try split)<;>(try split)<;>omega
     simp [uI.c,dO,gT h1,gT h2,xH,rx,ry,tZ,kx,ky,xR x h1,xR y h2,e]
    ·have e:bI x y = -1:=by unfold bI;rw [if_neg (by omega),if_pos (by omega)]
     simp [uI.c,dO,gT h1,gI (show 0<=y by omega),e]
    ·have e:bI x y=1:=by unfold bI;rw [if_neg (by omega),if_neg (by omega)]
     simp [uI.c,dO,gI (show 0<=x by omega),gT h2,e]
    ·simp [uI.c,dO,gI (show 0<=x by omega),gI (show 0<=y by omega),xH,rx,ry,tZ,kx,ky,wB x (by omega),wB y (by omega)]
   ·cases h
  ·cases h
 ·cases h
end Go.Proofs.YtfcbohachbeamaaGreatDoor.E
namespace Go.Proofs.YtfcbohachbeamaaGreatDoor.E
open Go.VC Go.RowKit
def Iw:List AP->Option AV
 | [a,b]=>match dB a,dB b with
  | some x,some y=>if cJ x/\cJ y then some (.o (dO (x+y))) else none
  | _,_=>none
 | _=>none
theorem Sm:Ok Tryz.prog 25 Iw:=eE Tryz.func25 pA.ent pA.aA (aB v7 (aB aQS (aB aOg aH))) fun av r h=>by
 unfold Iw at h
 split at h
 ·split at h
  ·rename_i a b x1 x2 x y hx hy
   split at h
   ·rename_i hs
    cases h
    obtain rfl:=vG hx
    obtain rfl:=vG hy
    have lx:=Cn hs.1
    have ly:=Cn hs.2
    have kx:(dg x).length<=1000000:=by omega
    have ky:(dg y).length<=1000000:=by omega
    have jx:(dg x).length<=100000:=by omega
    have jy:(dg y).length<=100000:=by omega
    refine ⟨by simp [pA.c],0,?_⟩
    have rx:=Nz x
    have ry:=Nz y
    by_cases h1:x<0<;>by_cases h2:y<0
    ·have e:dg (-x + -y)=dg (x+y):=by rw [← Ie];congr 1;omega
     simp [pA.c,dO,gT h1,gT h2,gT (show x+y<0 by omega),Mg,rx,ry,jx,jy,xR x h1,xR y h2,e]
    ·by_cases h3 : -x<y
     ·have c1:bI (-x) y<0:=Ei.2 h3
      have h4 : -x<=y:=by omega
      have e:y - -x=x+y:=by omega
      simp [pA.c,dO,gT h1,gI (show 0<=y by omega),gI (show 0<=x+y by omega),xH,Br,rx,ry,tZ,kx,ky,jx,jy,xR x h1,wB y (by omega),c1,h4,e]
     ·have c1 : ¬ bI (-x) y<0:=by rw [Ei];exact h3
      have h4:y <= -x:=by omega
      have e:dg (-x-y)=dg (x+y):=by rw [← Ie];congr 1;omega
      by_cases h0:x+y=0
      ·have e2:dg (x+y) = []:=by rw [h0];exact Ra
       have e3:eJ (x+y)=false:=gI (by omega)
       simp [pA.c,dO,gT h1,gI (show 0<=y by omega),e3,xH,Br,rx,ry,tZ,kx,ky,jx,jy,xR x h1,wB y (by omega),c1,h4,e,e2]
      ·have e2:=Oo h0
       simp [pA.c,dO,gT h1,gI (show 0<=y by omega),gT (show x+y<0 by omega),xH,Br,rx,ry,tZ,kx,ky,jx,jy,xR x h1,wB y (by omega),c1,h4,e,e2]
    ·by_cases h3:x < -y
     ·have c1:bI x (-y)<0:=Ei.2 h3
      have h4:x <= -y:=by omega
      have e:dg (-y-x)=dg (x+y):=by rw [← Ie];congr 1;omega
      have e2:=Oo (show x+y≠0 by omega)
      simp [pA.c,dO,gI (show 0<=x by omega),gT h2,gT (show x+y<0 by omega),xH,Br,rx,ry,tZ,kx,ky,jx,jy,wB x (by omega),xR y h2,c1,h4,e,e2]
     ·have c1 : ¬ bI x (-y)<0:=by rw [Ei];exact h3
      have h4 : -y<=x:=by omega
      have e:x - -y=x+y:=by omega
      simp [pA.c,dO,gI (show 0<=x by omega),gT h2,gI (show 0<=x+y by omega),xH,Br,rx,ry,tZ,kx,ky,jx,jy,wB x (by omega),xR y h2,c1,h4,e]
    ·simp [pA.c,dO,gI (show 0<=x by omega),gI (show 0<=y by omega),gI (show 0<=x+y by omega),Mg,rx,ry,jx,jy,wB x (by omega),wB y (by omega)]
   ·cases h
  ·cases h
 ·cases h
def Sl:List AP->Option AV
 | [a,b]=>match dB a,dB b with
  | some x,some y=>if cJ x/\cJ y then some (.o (dO (x-y))) else none
  | _,_=>none
 | _=>none
theorem aCu:Ok Tryz.prog 38 Sl:=eE Tryz.func38 Db.ent Db.aA (aB Ub (aB Sm aH)) fun av r h=>by
 unfold Sl at h
 split at h
 ·split at h
  ·rename_i a b x1 x2 x y hx hy
   split at h
   ·rename_i hs
    cases h
    obtain rfl:=vG hx
    obtain rfl:=vG hy
    refine ⟨by simp [Db.c],0,?_⟩
    have rx:=wT x
    have ry:=wT y
    have rn:=wT (-y)
    have sn:cJ (-y):=by have:=hs.2;unfold cJ at this ⊢;omega
    simp [Db.c,dO,Jd,Iw,rx,ry,rn,hs.1,sn,← Int.sub_eq_add_neg]
   ·cases h
  ·cases h
 ·cases h
end Go.Proofs.YtfcbohachbeamaaGreatDoor.E
namespace Go.Proofs.YtfcbohachbeamaaGreatDoor.E
open Go.VC Go.RowKit
def T3:List AP->Option AV
 | [.c (.v (.int .i64 n))]=>if -0x8000000000000000<=n/\n<0x8000000000000000 then some (.o (dO n)) else none
 | _=>none
theorem aRF:Ok Tryz.prog 16 T3:=eE Tryz.func16 zM.ent zM.aA (aB Y5 (aB Sm (aB Ub aH))) fun av r h=>by
 unfold T3 at h
 split at h
 ·rename_i n
  split at h
  ·rename_i hn
   cases h
   refine ⟨by simp [zM.c],0,?_⟩
   by_cases h0:0<=n
   ·have e:n%0x10000000000000000=n:=by omega
    have h1:n<0x10000000000000000:=by omega
    simp [zM.c,h0,fI,e,Nw,h1,dO]
   ·have w1:IntKind.i64.wrap (n+1)=n+1:=aD (by omega) (by omega)
    have w2:IntKind.i64.wrap (-(n+1)) = -(n+1):=aD (by omega) (by omega)
    have e : -(n+1)%0x10000000000000000 = -(n+1):=by omega
    have h1:0 <= -(n+1):=by omega
    have h2 : -(n+1)<0x10000000000000000:=by omega
    have h3:n+1<=0:=by omega
    have b1:=wT (-(n+1))
    have b2:=wT 1
    have b3:=wT (-(n+1)+1)
    have s1:cJ (-(n+1)):=by unfold cJ;omega
    have s2:cJ 1:=by decide
    have e2 : -(-(n+1)+1)=n:=by omega
    simp [zM.c,h0,fI,w1,w2,e,Nw,h1,h2,h3,dO,Iw,Jd,b1,b2,b3,s1,s2,e2]
  ·cases h
 ·cases h
def Vu:List AP->Option AV
 | [a,b]=>match dB a,dB b with
  | some x,some y=>if cJ x/\cJ y then some (.o (bv (decide (x=y)))) else none
  | _,_=>none
 | _=>none
theorem aJC {x y:Int} : (bI x y=0)↔x=y:=by unfold bI;split<;>(try split)<;>omega
theorem aDR:Ok Tryz.prog 15 Vu:=eE Tryz.func15 Er.ent Er.aA (aB n8 aH) fun av r h=>by
 unfold Vu at h
 split at h
 ·split at h
  ·rename_i a b x1 x2 x y hx hy
   split at h
   ·rename_i hs
    cases h
    obtain rfl:=vG hx
    obtain rfl:=vG hy
    refine ⟨by simp [Er.c],0,?_⟩
    have rx:=wT x
    have ry:=wT y
    simp [Er.c,dO,Mt,rx,ry,hs.1,hs.2]
    exact bb aJC
   ·cases h
  ·cases h
 ·cases h
end Go.Proofs.YtfcbohachbeamaaGreatDoor.E
namespace Go.Proofs.YtfcbohachbeamaaGreatDoor.E
open Go.VC Go.RowKit
section
variable {ns:List Nat} {n:Nat} {cs:List AC} {s:St} {t:RT} {m:Nat}
theorem aBJ {x:Value} : (AC.v x).kill ns = .v x:=_root_.id rfl
theorem aF8 {m off:Nat} : (AC.p m off).kill ns=if m∈ns then .u else .p m off:=_root_.id rfl
theorem aOw {t:RT} {m len:Nat} : (AC.s t m len).kill ns=if m∈ns then .u else .s t m len:=_root_.id rfl
theorem aNO {e:IntKind} {l:List Int} : (AC.r e l).kill ns = .r e l:=_root_.id rfl
theorem aO4 {x:Value} : (AC.k x).kill ns = .k x:=_root_.id rfl
theorem aGC {m:Nat} {l:List QC} : (AC.q m l).kill ns = .q m l:=_root_.id rfl
theorem aJP {l:List QC} : (AC.kq l).kill ns = .kq l:=_root_.id rfl
theorem aCa {e:IntKind} : (AC.nil e).kill ns = .nil e:=_root_.id rfl
theorem aMl:AC.u.kill ns = .u:=_root_.id rfl
theorem aKL {x:Value} : (AC.v x).rel n cs = .v x:=_root_.id rfl
theorem aNz {m off:Nat} : (AC.p m off).rel n cs=if m=n then Am cs off else .p m off:=_root_.id rfl
theorem aFB {f:Nat} {caps:List FC} : (AC.fn f caps).rel n cs=(match pS n cs caps with | some l=> .fn f l | none=> .u):=_root_.id rfl
theorem aF3 {k:IntKind} : (AC.ik k).rel n cs = .ik k:=_root_.id rfl
theorem aLF {f:Nat} {caps:List FC} : (AC.fn f caps).kill ns=if caps.all (·.jA ns)=true then .fn f caps else .u:=_root_.id rfl
theorem aLf {k:IntKind} : (AC.ik k).kill ns = .ik k:=_root_.id rfl
theorem aRi {t:RT} {m len:Nat} : (AC.s t m len).rel n cs=if m=n then fS t len cs else .s t m len:=_root_.id rfl
theorem aDD {e:IntKind} {l:List Int} : (AC.r e l).rel n cs = .r e l:=_root_.id rfl
theorem aJa {x:Value} : (AC.k x).rel n cs = .k x:=_root_.id rfl
theorem aOL {m:Nat} {l:List QC} : (AC.q m l).rel n cs = .q m l:=_root_.id rfl
theorem aGl {l:List QC} : (AC.kq l).rel n cs = .kq l:=_root_.id rfl
theorem aQD {e:IntKind} : (AC.nil e).rel n cs = .nil e:=_root_.id rfl
theorem aQl:AC.u.rel n cs = .u:=_root_.id rfl
theorem aGX {t':RT} {len:Nat} : fY t s (.o (.c (.s t' n len)))=match s.mem n with
 | some cs=>if t'.e=t.e/\t'.m=t.m/\len*t.m<=cs.length/\n<1000 then some ([n],len,cs.take (len*t.m)) else none
 | none=>none:=_root_.id rfl
theorem aM3 {e:IntKind} : fY t s (.o (.c (.nil e)))=some ([],0,[]):=_root_.id rfl
theorem aLa {len:Nat} : fE m s (.o (.c (.s t n len)))=match s.mem n with
 | some cs=>if t.m=m/\len*m<=cs.length then some ([n],len,cs.take (len*m)) else none
 | none=>none:=_root_.id rfl
theorem aOW {l:List Int} : fE 1 s (.o (.c (.r .i64 l)))=some ([],l.length,ci l):=_root_.id rfl
theorem aBP {e:IntKind} : fE m s (.o (.c (.nil e)))=some ([],0,[]):=_root_.id rfl
theorem aG2 {l:List Int} : (ci l).map (fun x=>x.rel n cs)=ci l:=by simp [ci,AC.rel]
theorem aIq {e n:Nat} {l:List Int} : fS ⟨e,1,some .i64⟩ n (ci l)=if n<=l.length then .r .i64 (l.take n) else .u:=by
 unfold fS
 simp only [Nat.mul_one,lJ,if_true]
 have h:(ci l).take n=ci (l.take n):=by simp [ci]
 rw [h,Pb]
theorem aPW {e:Nat} {x:Int} : fS ⟨e,1,some .i64⟩ 1 [.v (.int .i64 x)] = .r .i64 [x]:=_root_.id rfl
theorem aIX {x:Int} {l:List Int} : AC.v (.int .i64 x)::ci l=ci (x::l):=by simp [ci]
theorem aFX {l:List Int} {i:Nat} (h:i<(ci l).length):(ci l)[i] = .v (.int .i64 (l[i]'(by rwa [lJ] at h))):=by simp [ci]
theorem aIS {l:List Int} : (∀ x,x∈ci l->(match x with | AC.u=>false | _=>true)=true)=True:=by
 simp only [eq_iff_iff,iff_true]
 intro x hx
 simp only [ci,List.mem_map] at hx
 obtain ⟨y,_,rfl⟩:=hx
 rfl
end
attribute [simp] dO aGX aM3 aLa aOW aBP St.drop aBJ aF8 aOw aNO aO4 aGC aJP aCa aMl AP.kill AV.kill St.rel St.pG aFB aF3 aLF aLf aKL aNz aRi aDD aJa aOL aGl aQD aQl AP.rel AV.rel aIq aPW yD aG2 lJ aIX aFX aIS
theorem aEV {z:Int} : (eJ z=true)↔z<0:=by unfold eJ;simp
theorem aM7 {z:Int} : (eJ z=false)↔0<=z:=by unfold eJ;simp
attribute [simp] aEV aM7
abbrev aJ7:=s1 Gj (fun l=>l.length<=1000000) fun l=> .o (.c (.r .i64 (dg (val l))))
abbrev aHU:=s1 Jm dX fun n=> .o (dO n)
abbrev H0:=s1 bF dX fun n=> .o (dO n)
abbrev v8:=s1 lD dX fun n=> .o (dO (-n))
abbrev P9:=s2 lD lD (fun x y=>cJ x/\cJ y) fun x y=> .o (iv .i64 (bI x y))
abbrev I9:=s2 lD lD (fun x y=>cJ x/\cJ y) fun x y=> .o (dO (x+y))
abbrev Yd:=s2 lD lD (fun x y=>cJ x/\cJ y) fun x y=> .o (dO (x-y))
abbrev G7:=s2 lD lD (fun x y=>cJ x/\cJ y) fun x y=> .o (bv (decide (x=y)))
theorem eB (x:Int):dB (lD.e x)=some x:=wT x
theorem aRj:Ok Tryz.prog 68 aJ7:=Me.via fun av r h=>by
 obtain ⟨x,rfl,h1,h2,rfl⟩:=pO h
 simp only [vH]
 have e:dR (Gj.e x)=some x:=by show dR (.c (.r .i64 x))=_;simp only [dR];exact if_pos h1
 rw [e]
 exact if_pos h2
theorem aC0:Ok Tryz.prog 40 aHU:=Y5.via fun av r h=>by
 obtain ⟨x,rfl,h1,-,rfl⟩:=pO h
 exact if_pos h1
theorem L2:Ok Tryz.prog 16 H0:=aRF.via fun av r h=>by
 obtain ⟨x,rfl,h1,-,rfl⟩:=pO h
 exact if_pos h1
theorem Zs:Ok Tryz.prog 23 v8:=Ub.via fun av r h=>by
 obtain ⟨x,rfl,h1,-,rfl⟩:=pO h
 simp only [Jd,eB]
theorem P4:Ok Tryz.prog 39 P9:=n8.via fun av r h=>by
 obtain ⟨x,y,rfl,h1,h2,h3,rfl⟩:=jF h
 simp only [Mt,eB]
 exact if_pos h3
theorem aA6:Ok Tryz.prog 25 I9:=Sm.via fun av r h=>by
 obtain ⟨x,y,rfl,h1,h2,h3,rfl⟩:=jF h
 simp only [Iw,eB]
 exact if_pos h3
theorem E0:Ok Tryz.prog 38 Yd:=aCu.via fun av r h=>by
 obtain ⟨x,y,rfl,h1,h2,h3,rfl⟩:=jF h
 simp only [Sl,eB]
 exact if_pos h3
theorem aFO:Ok Tryz.prog 15 G7:=aDR.via fun av r h=>by
 obtain ⟨x,y,rfl,h1,h2,h3,rfl⟩:=jF h
 simp only [Vu,eB]
 exact if_pos h3
theorem j7 (q:Nat):val (List.replicate q 0)=0:=val_zero (fun d hd=>List.eq_of_mem_replicate hd)
theorem Yv (q:Nat):Dg (List.replicate q 0):=fun d hd=>by rw [List.eq_of_mem_replicate hd];decide
theorem Yk : ∀ m:Nat,m<16->(2:Int) ^ m<65536/\1<=(2:Int) ^ m:=by decide
theorem aKu (q:Nat):(65536:Int) ^ q=2 ^ (16*q):=by
 induction q with
 | zero=>rfl
 | succ q ih=>rw [Int.pow_succ,ih,Nat.mul_succ,Int.pow_add];rfl
theorem aBW (q m:Nat) (hm:m<16):List.replicate q 0 ++ [(2:Int) ^ m]=dg (2 ^ (16*q+m)):=by
 obtain ⟨h1,h2⟩:=Yk m hm
 have hd:Dg (List.replicate q 0 ++ [(2:Int) ^ m]):=Ty (Yv q) (fun d hd=>by simp at hd;omega)
 have ht:fK (List.replicate q 0 ++ [(2:Int) ^ m]):=by unfold fK;simp;omega
 have hv:val (List.replicate q 0 ++ [(2:Int) ^ m])=2 ^ (16*q+m):=by
  rw [Lu,j7,List.length_replicate,aKu,← Int.pow_add];omega
 rw [Km hd ht,hv]
 unfold dg
 congr 1
abbrev aGG:=s1 bF (fun n=>0<=n/\n<=1000000) fun n=> .o (dO (2 ^ n.toNat))
theorem x8 (q:Nat):List.replicate q (AC.v (.int .i64 0))=ci (List.replicate q 0):=by simp [ci]
theorem aOh (n:Int) (q m:Nat) (p P:Int) (hm:m<16) (hq:q<=62500) (hn:n=16*q+m) (hp1:p<65536) (hp2:1<=p) (hp:(2:Int) ^ m=p) (hP0:0<=P) (hP:List.replicate q 0 ++ [p]=dg P):bY (gV []) 0 wV.c.code (gY [bF.e n]) (done wV.c (.o (dO P))):=by
 have t1:n.tdiv 16=(q:Int):=by rw [Int.tdiv_eq_ediv_of_nonneg (by omega)];omega
 have t2:n.tmod 16=(m:Int):=by rw [Int.tmod_eq_emod_of_nonneg (by omega)];omega
 have w1:IntKind.i64.wrap (q:Int)=q:=aD (by omega) (by omega)
 have w2:IntKind.i64.wrap ((q:Int)+1)=(q:Int)+1:=aD (by omega) (by omega)
 have w3:IntKind.u64.wrap (m:Int)=(m:Int):=by rw [fI];omega
 have w5:min m 64=m:=by omega
 have w6:IntKind.i64.wrap p=p:=aD (by omega) (by omega)
 have hc:List.replicate q (AC.v (.int .i64 0)) ++ [AC.v (.int .i64 p)]=ci (List.replicate q 0 ++ [p]):=by rw [Rz,x8]
 have hlP:(dg P).length=q+1:=by rw [← hP];simp
 have htk:List.take (q+1) (dg P)=dg P:=List.take_of_length_le (by omega)
 have hng:eJ P=false:=gI hP0
 have c1:(q:Int)+1<=1000000000000:=by omega
 have c0:(0:Int)<=(q:Int)+1:=by omega
 have c2:((q:Int)+1).toNat=q+1:=by omega
 have c5:(q:Int)<(q:Int)+1:=by omega
 have c3:List.drop (q+1) (List.replicate (q+1) (AC.v (.int .i64 0))) = []:=List.drop_eq_nil_of_le (by simp)
 have c4:List.take q (List.replicate (q+1) (AC.v (.int .i64 0)))=List.replicate q (AC.v (.int .i64 0)):=by simp
 simp [wV.c,c0,c5,t1,t2,w1,w2,w3,w5,w6,hp,c1,c2,c3,c4,hc,htk,hlP,hP,hng]
theorem aA5:Ok Tryz.prog 41 aGG:=cA (aG Tryz.func41 wV.ent wV.aA aH) (by simp [wV.c]) fun n hn hg=>by
 refine ⟨0,?_⟩
 obtain ⟨h1,h2⟩:=Yk (n.toNat%16) (by omega)
 have e:=aBW (n.toNat/16) (n.toNat%16) (by omega)
 have e2:16*(n.toNat/16)+n.toNat%16=n.toNat:=by omega
 rw [e2] at e
 generalize hP:(2:Int) ^ n.toNat=P at *
 have hP0:0<=P:=by rw [← hP];exact Int.le_of_lt (Int.pow_pos (by decide))
 exact aOh n (n.toNat/16) (n.toNat%16) _ P (by omega) (by have:=hg.2;omega) (by have:=hg.1;omega) h1 h2 rfl hP0 e
end Go.Proofs.YtfcbohachbeamaaGreatDoor.E
namespace Go.Proofs.YtfcbohachbeamaaGreatDoor.E
open Go.VC Go.RowKit
theorem aIW {d:List Int} {k:Nat} (h:k<d.length):(ci d)[k]? = some (.v (.int .i64 (d.getD k 0))):=by
 simp [ci,List.getElem?_map,List.getD_eq_getElem?_getD,List.getElem?_eq_getElem h]
theorem M8 {d:List Int} {k:Nat} {x:Int} (h:k<d.length):List.take k (ci d)++AC.v (.int .i64 x)::List.drop (k+1) (ci d)=ci (d.set k x):=by
 rw [List.set_eq_take_append_cons_drop,if_pos h]
 simp [ci]
theorem pow_add' (i j:Nat):(65536:Int) ^ (i+j)=65536 ^ i*65536 ^ j:=Int.pow_add ..
theorem Zg (l:List Int) (j:Nat) (h:j<l.length):val (l.take (j+1))=val (l.take j)+l.getD j 0*65536 ^ j:=by
 rw [List.take_add_one,List.getElem?_eq_getElem h]
 simp only [Option.toList_some]
 rw [Lu,List.length_take,Nat.min_eq_left (by omega)]
 simp [List.getD_eq_getElem?_getD,List.getElem?_eq_getElem h,Int.mul_comm]
def Jk (x y:Int) (L i j:Nat) (d:List Int) (c:Int) (s:St):Prop:=
 s.tm 2 = .o (.c (.p 2 0))/\s.tm 3 = .o (.c (.p 3 0))/\s.tm 4 = .o (.c (.p 4 0))/\s.tm 5 = .o (.c (.s ⟨3,1,some .i64⟩ 17 L))/\s.tm 6 = .o (.c (.v (.int .i64 (i:Int))))/\s.tm 7 = .o (.c (.v (.int .i64 c)))/\s.tm 8 = .o (.c (.v (.int .i64 (j:Int)))) /\
 s.mem 2=some [.v (.bool (eJ x)),.r .i64 (dg x)]/\s.mem 3=some [.v (.bool (eJ y)),.r .i64 (dg y)]/\s.mem 4=some [.v (.bool false),.nil .i64]/\s.mem 17=some (ci d)/\d.length=L
theorem aIg {sp:VC.Spec} {K:Nat} {Q:AX->St->Prop} {x y:Int} {L i j:Nat} {d:List Int} {c:Int} {s:St} (H:Jk x y L i j d c s) (hi:i<(dg x).length) (hj:j<(dg y).length) (hL:L=(dg x).length+(dg y).length) (hL2:L<=1000) (hd:Dg d) (c0:0<=c) (c1:c<65536) :
 bY sp K lH.l1 s (sK (Jk x y L i (j+1) (d.set (i+j) ((d.getD (i+j) 0+(dg x).getD i 0*(dg y).getD j 0+c)%65536)) ((d.getD (i+j) 0+(dg x).getD i 0*(dg y).getD j 0+c)/65536)) Q):=by
 obtain ⟨t2,t3,t4,t5,t6,t7,t8,m2,m3,m4,m17,hdl⟩:=H
 have hk:i+j<d.length:=by omega
 have gx:=gK (mK x) i
 have gy:=gK (mK y) j
 have gd:=gK hd (i+j)
 have hg:=aIW hk
 have hs:=fun v=>M8 (d:=d) (x:=v) hk
 have hdl2:(ci d).length=L:=by rw [lJ,hdl]
 generalize hA:(dg x).getD i 0=A at *
 generalize hB:(dg y).getD j 0=B at *
 generalize hC:d.getD (i+j) 0=C at *
 have m0:0<=A*B:=Int.mul_nonneg gx.1 gy.1
 have m1:A*B<=65535*65535:=Int.mul_le_mul (by omega) (by omega) gy.1 (by decide)
 generalize hP:A*B=P at *
 have w1:IntKind.i64.wrap ((i:Int)+(j:Int))=(i:Int)+j:=aD (by omega) (by omega)
 have w2:IntKind.i64.wrap P=P:=aD (by omega) (by omega)
 have w3:IntKind.i64.wrap (C+P)=C+P:=aD (by omega) (by omega)
 have w4:IntKind.i64.wrap (C+P+c)=C+P+c:=aD (by omega) (by omega)
 have w5:(C+P+c).tdiv 65536=(C+P+c)/65536:=Is (by omega)
 have w6:(C+P+c).tmod 65536=(C+P+c)%65536:=Kl (by omega)
 have w7:IntKind.i64.wrap ((C+P+c)/65536)=(C+P+c)/65536:=aD (by omega) (by omega)
 have w8:IntKind.i64.wrap ((j:Int)+1)=(j:Int)+1:=aD (by omega) (by omega)
 have n1:((i:Int)+j).toNat=i+j:=by omega
 have n2:(0:Int)<=(i:Int)+j:=by omega
 have n3:(i:Int)+j<L:=by omega
 have n4:i+j+1<=L:=by omega
 simp [-List.getD_eq_getElem?_getD,lH.l1,t2,t3,t4,t5,t6,t7,t8,m2,m3,m4,m17,hi,hj,w1,w2,w3,w4,w5,w6,w7,w8,n1,n2,n3,n4,hA,hB,hP,hg,hs,hdl2,hC,Jk,hdl]
theorem aEr {I I':St->Prop} {Q:AX->St->Prop} (h : ∀ s,I s->I' s) : ∀ a s,sK I Q a s->sK I' Q a s:=fun a s hq=>by
 cases a with
 | n=>exact h s hq
 | e i=>exact hq
 | r=>exact hq
def Kb (x y:Int) (L i:Nat) (s:St):Prop:=
 s.tm 2 = .o (.c (.p 2 0))/\s.tm 3 = .o (.c (.p 3 0))/\s.tm 4 = .o (.c (.p 4 0))/\s.tm 5 = .o (.c (.s ⟨3,1,some .i64⟩ 17 L))/\s.tm 6 = .o (.c (.v (.int .i64 (i:Int)))) /\
 s.mem 2=some [.v (.bool (eJ x)),.r .i64 (dg x)]/\s.mem 3=some [.v (.bool (eJ y)),.r .i64 (dg y)]/\s.mem 4=some [.v (.bool false),.nil .i64] /\
 ∃ d,s.mem 17=some (ci d)/\d.length=L/\Dg d/\val d=val ((dg x).take i)*val (dg y) /\ ∀ k,i+(dg y).length<=k->d.getD k 0=0
theorem getD_set_ne {d:List Int} {k j:Nat} {v:Int} (h:j≠k):(d.set k v).getD j 0=d.getD j 0:=by
 simp [List.getD_eq_getElem?_getD,List.getElem?_set_ne (Ne.symm h)]
theorem aPX {X A B c n Pi Pj:Int} : X+(n%65536-A)*(Pi*Pj)+n/65536*(Pi*(Pj*65536))=X+(n-A)*(Pi*Pj):=by
 have e:n=n/65536*65536+n%65536:=by omega
 generalize n/65536=q at *
 generalize n%65536=r at *
 subst e
 grind
theorem aME {sp:VC.Spec} {K:Nat} {Q:AX->St->Prop} {x y:Int} {L i:Nat} {s:St} (H:Kb x y L i s) (hi:i<(dg x).length) (hL:L=(dg x).length+(dg y).length) (hL2:L<=1000) (hK:1000<K) :
 bY sp K lH.l2 s (sK (Kb x y L (i+1)) Q):=by
 obtain ⟨t2,t3,t4,t5,t6,m2,m3,m4,d0,m17,hd0,hdg0,hv0,hz0⟩:=H
 simp [-List.getD_eq_getElem?_getD,lH.l2,t2,t3,t4,t5,t6,m2,m3,m4,m17,hi]
 refine iO (fun j s=> ∃ d c,Jk x y L i j d c s/\Dg d/\0<=c/\c<65536/\val d+c*(65536 ^ i*65536 ^ j)=val d0+(dg x).getD i 0*(65536 ^ i*val ((dg y).take j)) /\ ∀ k,i+(dg y).length<=k->d.getD k 0=0) (dg y).length ?_ ?_ K _ (by omega) ?_
 ·rintro j s hj ⟨d,c,HJ,hd,c0,c1,hv,hz⟩
  have hdl:d.length=L:=HJ.2.2.2.2.2.2.2.2.2.2.2
  refine aJx (aIg HJ hi hj hL hL2 hd c0 c1) (aEr fun s' h'=>⟨_,_,h',O3 hd _ (by omega),?_,?_,?_,?_⟩)
  ·have gx:=gK (mK x) i
   have gy:=gK (mK y) j
   have gd:=gK hd (i+j)
   have m0:0<=(dg x).getD i 0*(dg y).getD j 0:=Int.mul_nonneg gx.1 gy.1
   omega
  ·have gx:=gK (mK x) i
   have gy:=gK (mK y) j
   have gd:=gK hd (i+j)
   have m1:(dg x).getD i 0*(dg y).getD j 0<=65535*65535:=Int.mul_le_mul (by omega) (by omega) gy.1 (by decide)
   omega
  ·rw [Wp _ _ _ (by omega),Zg _ _ hj,pow_add',Int.pow_succ,aPX]
   ·generalize (dg x).getD i 0=A at *
    generalize (dg y).getD j 0=B at *
    generalize val ((dg y).take j)=V at *
    generalize (65536:Int) ^ i=Pi at *
    generalize (65536:Int) ^ j=Pj at *
    grind
   ·exact 0
   ·exact 0
  ·intro k hk
   rw [getD_set_ne (by omega)]
   exact hz k hk
 ·rintro s' ⟨d,c,⟨t2,t3,t4,t5,t6,t7,t8,m2,m3,m4,m17,hdl⟩,hd,c0,c1,hv,hz⟩
  have hk:i+(dg y).length<d.length:=by omega
  have hs:=fun v=>M8 (d:=d) (x:=v) hk
  have hdl2:(ci d).length=L:=by rw [lJ,hdl]
  have w1:IntKind.i64.wrap ((i:Int)+((dg y).length:Int))=(i:Int)+(dg y).length:=aD (by omega) (by omega)
  have w2:IntKind.i64.wrap ((i:Int)+1)=(i:Int)+1:=aD (by omega) (by omega)
  have n1:((i:Int)+(dg y).length).toNat=i+(dg y).length:=by omega
  have n2:(0:Int)<=(i:Int)+(dg y).length:=by omega
  have n3:(i:Int)+(dg y).length<L:=by omega
  have n4:i+(dg y).length+1<=L:=by omega
  simp [-List.getD_eq_getElem?_getD,lH.l1,t2,t3,t4,t5,t6,t7,t8,m2,m3,m4,m17,hi,w1,w2,n1,n2,n3,n4,hs,hdl2,Kb]
  refine ⟨_,rfl,by simp [hdl],O3 hd _ ⟨c0,c1⟩,?_,?_⟩
  ·rw [Wp _ _ _ hk,hz _ (Nat.le_refl _),Zg _ _ hi,pow_add',Int.sub_zero,hv,hv0]
   rw [List.take_of_length_le (Nat.le_refl _)]
   generalize (dg x).getD i 0=A at *
   generalize (65536:Int) ^ i=Pi at *
   grind
  ·intro k hk2
   rw [getD_set_ne (by omega)]
   exact hz k (by omega)
 ·refine ⟨d0,0,?_,hdg0,by decide,by decide,?_,fun k hk=>hz0 k hk⟩
  ·simp [Jk,t2,t3,t4,t5,t6,m2,m3,m4,m17,hd0]
  ·simp [val]
abbrev Y1:=s2 lD lD (fun x y=>cJ x/\cJ y) fun x y=> .o (dO (x*y))
theorem V3:Ok Tryz.prog 44 Y1:=eT (aG Tryz.func44 lH.ent lH.aA (aB aRj aH)) (by simp [lH.c]) fun x y _ _ hg=>by
 have lx:=Cn hg.1
 have ly:=Cn hg.2
 refine ⟨2000,?_⟩
 have w1:IntKind.i64.wrap (((dg x).length:Int)+(dg y).length)=((dg x).length:Int)+(dg y).length:=aD (by omega) (by omega)
 have n1:(((dg x).length:Int)+(dg y).length).toNat=(dg x).length+(dg y).length:=by omega
 have n2:(0:Int)<=((dg x).length:Int)+(dg y).length:=by omega
 have n3:((dg x).length:Int)+(dg y).length<=1000000000000:=by omega
 simp [-List.getD_eq_getElem?_getD,lH.c,w1,n1,n2,n3]
 refine iO (Kb x y ((dg x).length+(dg y).length)) (dg x).length (fun i s hi H=>aME H hi rfl (by omega) (by omega)) ?_ 2000 _ (by omega) ?_
 ·rintro s ⟨t2,t3,t4,t5,t6,m2,m3,m4,d,m17,hd,hdg,hv,hz⟩
  rw [List.take_of_length_le (Nat.le_refl _),Al,Al] at hv
  have hr:d.take ((dg x).length+(dg y).length)=d:=List.take_of_length_le (by omega)
  have hlen:(dg x).length+(dg y).length<=1000000:=by omega
  have hlen2:(dg x).length+(dg y).length<=(ci d).length:=by rw [lJ];omega
  have e:dg (val d)=dg (x*y):=by
   rw [hv,← Int.natCast_mul,← Int.natAbs_mul,aPJ]
  have hp:= @Oo (x*y)
  have hz0:x*y=0->dg (x*y) = []:=fun h=>by rw [h];exact Ra
  simp [-List.getD_eq_getElem?_getD,lH.l2,t2,t3,t4,t5,t6,m2,m3,m4,m17,hr,hd,hdg,hlen,hlen2,e]
  have hle:x*y≠0->decide (0<(dg (x*y)).length)=true:=fun h=>decide_eq_true (hp h)
  have hl0:x*y=0->decide (0<(dg (x*y)).length)=false:=fun h=>by rw [hz0 h];rfl
  by_cases hx:x<0<;>by_cases hy:y<0
  ·rw [gT hx,gT hy]
   simp
   exact Int.mul_nonneg_of_nonpos_of_nonpos (by omega) (by omega)
  ·rw [gT hx,gI (show 0<=y by omega)]
   simp
   by_cases h0:x*y=0
   ·rw [hl0 h0,h0];rfl
   ·have:x*y<=0:=Int.mul_nonpos_of_nonpos_of_nonneg (by omega) (by omega)
    rw [hle h0,gT (by omega)]
  ·rw [gI (show 0<=x by omega),gT hy]
   simp
   by_cases h0:x*y=0
   ·rw [hl0 h0,h0];rfl
   ·have:x*y<=0:=Int.mul_nonpos_of_nonneg_of_nonpos (by omega) (by omega)
    rw [hle h0,gT (by omega)]
  ·rw [gI (show 0<=x by omega),gI (show 0<=y by omega)]
   simp
   exact Int.mul_nonneg (by omega) (by omega)
 ·simp [Kb]
  refine ⟨List.replicate ((dg x).length+(dg y).length) 0,(x8 _),by simp,Yv _,by rw [j7];simp [val],fun k hk=> ?_⟩
  rw [List.getElem?_replicate]
  split<;>rfl
end Go.Proofs.YtfcbohachbeamaaGreatDoor.E
namespace Go.Proofs.YtfcbohachbeamaaGreatDoor.E
open Go.VC Go.RowKit
end Go.Proofs.YtfcbohachbeamaaGreatDoor.E
namespace Go.Proofs.YtfcbohachbeamaaGreatDoor.E
open Go.VC Go.RowKit
theorem q64:(2:Int) ^ 64=0x10000000000000000:=by decide
theorem Pn:(2:Int) ^ 127=0x80000000000000000000000000000000:=by decide
theorem Ma:(2:Int) ^ 128=0x100000000000000000000000000000000:=by decide
abbrev A5:=s1 bN dX fun x=> .o (dO x)
theorem aJ1 {x:Int} (h : -0x80000000000000000000000000000000<=x/\x<0x80000000000000000000000000000000):(-0x8000000000000000<=aQ x/\aQ x<0x8000000000000000)/\(0<=aT x/\aT x<0x10000000000000000):=by unfold aQ aT;omega
theorem aG4:Ok Tryz.prog 24 A5:=cA (aG Tryz.func24 Cq.ent Cq.aA (aB L2 (aB aA5 (aB V3 (aB aC0 (aB aA6 aH)))))) (by simp [Cq.c]) fun x hx _=>by
 simp at hx
 refine ⟨0,?_⟩
 obtain ⟨h1,h2⟩:=aJ1 hx
 have s1:cJ (aQ x):=by unfold cJ;omega
 have s2:cJ 0x10000000000000000:=by decide
 have s3:cJ (aQ x*0x10000000000000000):=by unfold cJ;omega
 have s4:cJ (aT x):=by unfold cJ;omega
 simp [Cq.c,h1,h2,s1,s2,s3,s4,Nf,q64]
theorem aM1 (d:List Int) (hd:Dg d) (j:Nat):val (d.drop j)%0x10000000000000000=d.getD j 0+65536*d.getD (j+1) 0+4294967296*d.getD (j+2) 0+281474976710656*d.getD (j+3) 0:=by
 have e0:=yM d j
 have e1:=yM d (j+1)
 have e2:=yM d (j+1+1)
 have e3:=yM d (j+1+1+1)
 have g0:=gK hd j
 have g1:=gK hd (j+1)
 have g2:=gK hd (j+1+1)
 have g3:=gK hd (j+1+1+1)
 rw [show j+2=j+1+1 from rfl,show j+3=j+1+1+1 from rfl]
 omega
theorem q9 (d:List Int) (hd:Dg d) : ∀ j:Nat,val (d.drop j)=val d/65536 ^ j
 | 0=>by simp
 | j+1=>by
  have e:=yM d j
  have g:=gK hd j
  rw [q9 d hd j] at e
  rw [Int.pow_succ,← Int.ediv_ediv_of_nonneg (Int.le_of_lt (aBp j)),e]
  omega
def wv (d:List Int) (j:Nat):Nat->Int
 | 0=>0
 | i+1=>d.getD (j+(3-i)) 0+65536*wv d j i
theorem aMN {d:List Int} (hd:Dg d) (j:Nat) : ∀ i,i<=3->0<=wv d j i/\wv d j i<281474976710656:=by
 intro i hi
 have g1:=gK hd (j+(3-0))
 have g2:=gK hd (j+(3-1))
 have g3:=gK hd (j+(3-2))
 match i,hi with
 | 0,_=>simp [wv]
 | 1,_=>simp only [wv];omega
 | 2,_=>simp only [wv];omega
 | 3,_=>simp only [wv];omega
abbrev aOj:=s2 Il bF (fun x j=>cJ x/\0<=j/\j<=1000) fun x j=> .o (iv .u64 (x/65536 ^ j.toNat%0x10000000000000000))
theorem aOl:Ok Tryz.prog 42 aOj:=eT (aG Tryz.func42 qN.ent qN.aA aH) (by simp [qN.c]) fun x j hx hj hg=>by
 obtain ⟨g1,g2,g3⟩:=hg
 simp at hx hj
 obtain ⟨j,rfl⟩:=Int.eq_ofNat_of_zero_le g2
 have hv:=aM1 (dg x) (mK x) j
 rw [q9 _ (mK x),wB x hx] at hv
 refine ⟨10,?_⟩
 simp only [Int.toNat_natCast]
 rw [hv]
 have l:=Cn g1
 simp [-List.getD_eq_getElem?_getD,qN.c]
 refine iO (fun i s=>s.tm 0 = .o (.c (.r .i64 (dg x)))/\s.tm 1 = .o (.c (.v (.int .i64 (j:Int))))/\s.tm 6 = .o (.c (.v (.int .i64 (3-(i:Int))))) /\ ∃ v:Int,s.tm 5 = .o (.c (.v (.int .u64 v)))/\v=wv (dg x) j i) 4 ?_ ?_ 10 _ (by decide) ?_
 ·rintro i s hi ⟨t0,t1,t6,v,t5,hv⟩
  obtain ⟨v0,v1⟩:=aMN (mK x) j i (by omega)
  rw [← hv] at v0 v1
  have w1:IntKind.u64.wrap (v*65536)=v*65536:=by rw [fI];omega
  have w2:IntKind.i64.wrap ((j:Int)+(3-(i:Int)))=(j:Int)+(3-(i:Int)):=aD (by omega) (by omega)
  have w3:IntKind.i64.wrap (3-(i:Int)-1)=3-((i:Int)+1):=by rw [aD (by omega) (by omega)];omega
  have i3:(i:Int)<=3:=by omega
  have i4:(0:Int)<=3-(i:Int):=by omega
  have ev:wv (dg x) j (i+1)=(dg x).getD (j+(3-i)) 0+65536*v:=by rw [hv,wv]
  by_cases hl:(j:Int)+(3-(i:Int))<(dg x).length
  ·have g:=gK (mK x) (j+(3-i))
   have n1:((j:Int)+(3-(i:Int))).toNat=j+(3-i):=by omega
   have n2:(0:Int)<=(j:Int)+(3-(i:Int)):=by omega
   generalize hD:(dg x).getD (j+(3-i)) 0=D at *
   have w4:IntKind.u64.wrap D=D:=by rw [fI];omega
   have w5:IntKind.u64.wrap (v*65536+D)=v*65536+D:=by rw [fI];omega
   simp [-List.getD_eq_getElem?_getD,qN.l1,t0,t1,t5,t6,w1,w2,w3,w4,w5,i3,i4,hl,n1,n2,hD,ev]
   omega
  ·have e0:(dg x).getD (j+(3-i)) 0=0:=by
    rw [List.getD_eq_getElem?_getD,List.getElem?_eq_none (by omega)];rfl
   simp [-List.getD_eq_getElem?_getD,qN.l1,t0,t1,t5,t6,w1,w2,w3,i3,i4,hl,ev,e0]
   omega
 ·rintro s ⟨t0,t1,t6,v,t5,hv⟩
  simp [-List.getD_eq_getElem?_getD,qN.l1,t0,t1,t5,t6,hv,wv]
  omega
 ·simp [wv]
abbrev aAq:=s1 lD (fun x=>cJ x) fun x=>if -0x80000000000000000000000000000000<=x/\x<0x80000000000000000000000000000000 then .t [wd x,bv true] else .t [wd 0,bv false]
theorem okWideB:Ok Tryz.prog 18 aAq:=cA (aG Tryz.func18 uH.ent uH.aA (aB aA5 (aB P4 (aB Zs (aB E0 (aB aOl aH)))))) (by simp [uH.c]) fun x _ hg=>by
 refine ⟨0,?_⟩
 have s1:cJ 0x80000000000000000000000000000000:=by decide
 have s2:cJ (-0x80000000000000000000000000000000):=by decide
 have s3:cJ 0x100000000000000000000000000000000:=by decide
 by_cases h1:x<0x80000000000000000000000000000000
 ·have h1':=Int.not_le.2 h1
  by_cases h2 : -0x80000000000000000000000000000000<=x
  ·have h2':=Int.not_lt.2 h2
   by_cases h3:x<0
   ·have h3':=Int.not_le.2 h3
    have hn:tH x = -x:=by rw [aRl,if_pos h3]
    have s4:cJ (-x):=by unfold cJ;omega
    have s5:cJ (0x100000000000000000000000000000000+x):=by unfold cJ;omega
    have s6:0<=0x100000000000000000000000000000000+x:=by omega
    have e1:IntKind.i64.wrap ((0x100000000000000000000000000000000+x)/0x10000000000000000%0x10000000000000000)=aQ x:=by rw [IntKind.wrap_i64];unfold aQ;omega
    have e2:(0x100000000000000000000000000000000+x)%0x10000000000000000=aT x:=by unfold aT;omega
    simp [uH.c,hg,s1,s2,s3,s4,s5,s6,h1,h1',h2,h2',h3,h3',Pn,Ma,hn,e1,e2]
   ·have h3':=Int.not_lt.1 h3
    have e1:IntKind.i64.wrap (x/0x10000000000000000%0x10000000000000000)=aQ x:=by rw [IntKind.wrap_i64];unfold aQ;omega
    have e2:x%0x10000000000000000=aT x:=by unfold aT;omega
    simp [uH.c,hg,s1,s2,s3,h1,h1',h2,h2',h3,h3',Pn,Ma,e1,e2]
  ·have h2':=Int.not_le.1 h2
   simp [uH.c,hg,s1,s2,s3,h1,h1',h2,h2',Pn,Ma]
 ·have h1':=Int.not_lt.1 h1
  simp [uH.c,hg,s1,s2,s3,h1,h1',Pn,Ma]
end Go.Proofs.YtfcbohachbeamaaGreatDoor.E
end
