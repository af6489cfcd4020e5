/- What the laws' code answers: part 16 of what the rows of this seat lean on. -/
import Derived.Test.YtfcbohachbeamaaGreatDoorM15
import Derived.Test.YtfcbohachbeamaaGreatDoorM14
set_option linter.unusedVariables false
set_option linter.unusedSimpArgs false
set_option maxHeartbeats 8000000
set_option maxRecDepth 100000
section
namespace Go.Proofs.YtfcbohachbeamaaGreatDoor.E
open Go.VC Go.RowKit
abbrev rD {α β γ δ : Type} : α -> β -> γ -> δ -> Prop:=fun _ _ _ _=>True
def aF:Option (List Pc)->AC
 | some R=> .kq [.qv 14 (jM R)]
 | none=> .v (.pointer none)
def aK (c:Int×Option (List Pc)):List AC:= [.p 1000 0,aF c.2,.v (.int .i64 c.1)]
def iZ (c:Int×Option (List Pc)):Prop:=(-0x8000000000000000<=c.1/\c.1<0x8000000000000000) /\ ∀ R,c.2=some R->kJ R/\R ≠ []/\R.length<=1000
theorem aPc {x y:Int×Option (List Pc)} (h:aK x=aK y):x=y:=by
 obtain ⟨a,o⟩:=x
 obtain ⟨b,q⟩:=y
 simp only [aK,List.cons.injEq,AC.v.injEq,Value.int.injEq,true_and,and_true] at h
 obtain ⟨h1,h2⟩:=h
 subst h2
 cases o<;>cases q<;>simp only [aF,AC.kq.injEq,List.cons.injEq,QC.qv.injEq,true_and,and_true,reduceCtorEq] at h1
 ·rfl
 ·rw [Lv h1]
noncomputable def hJ:Co (Int×Option (List Pc)):=nA (0,none) (fun c=> .g (aK c)) iZ (fun x y _ _ h=>aPc (by simpa using h))
theorem bK {c:Int×Option (List Pc)} : hJ.e c = .g (aK c):=_root_.id rfl
theorem kC {c:Int×Option (List Pc)} (h:iZ c):hJ.v (.g [.p 1000 0,aF c.2,.v (.int .i64 c.1)])=True:=pR (e:=fun c=> .g (aK c)) h
theorem jX {c:Int×Option (List Pc)} (h:iZ c):hJ.t (.g [.p 1000 0,aF c.2,.v (.int .i64 c.1)])=c:=pY (e:=fun c=> .g (aK c)) h
noncomputable abbrev aNh:=s3 (cV 1001) dF hJ lB fun _ t c=> .io [1000,1001] [.g (aW t),.g (aK c)] [.c (.p 1000 0)]
theorem Mv:Ok Tryz.prog 103 aNh:=nK (aG Tryz.func103 Cj.ent Cj.aA aH) [1000,1001] [(1000,1000),(1001,1001)] 1 rfl rfl rfl rfl rfl (by simp [Cj.c]) fun _ t c _ ht hc _=>by
 obtain ⟨x,o⟩:=c
 refine ⟨⟨_,_,rfl⟩,0,?_⟩
 cases o<;>simp [Cj.c,bK,aK,aF]
noncomputable abbrev aI3:=s3 (cV 1001) dF hJ lB fun _ t c=> .io [1000,1001] [.g (aW t),.g (aK c)] [bv c.2.isSome]
theorem F7:Ok Tryz.prog 138 aI3:=nK (aG Tryz.func138 Bu.ent Bu.aA aH) [1000,1001] [(1000,1000),(1001,1001)] 1 rfl rfl rfl rfl rfl (by simp [Bu.c]) fun _ t c _ ht hc _=>by
 obtain ⟨x,o⟩:=c
 refine ⟨⟨_,_,rfl⟩,0,?_⟩
 cases o<;>simp [Bu.c,bK,aK,aF]
noncomputable abbrev aCG:=s4 (cV 1001) dV dF hJ rD fun _ l t c=> .io [1000,1001] [.g (aW t),.g (aK c)] [bv (decide (Dn c.1 l))]
theorem F0:Ok Tryz.prog 108 aCG:=tP (aG Tryz.func108 Fj.ent Fj.aA aH) [1000,1001] [(1000,1000),(1001,1001)] 2 rfl rfl rfl rfl rfl (by simp [Fj.c]) fun _ l t c _ hl ht hc _=>by
 obtain ⟨x,o⟩:=c
 obtain ⟨d,s,a⟩:=l
 refine ⟨⟨_,_,rfl⟩,0,?_⟩
 cases o<;>(simp [Fj.c,bK,aK,aF,Bc,Dn];rfl)
noncomputable abbrev aD9:=s4 (cV 1001) dV dF hJ rD fun _ l t c=> .io [1000,1001] [.g (aW t),.g (aK c)] [wd (cT t.es c.2 l).1,iv .i64 (cT t.es c.2 l).2]
theorem Zf:Ok Tryz.prog 107 aD9:=tP (aG Tryz.func107 xY.ent xY.aA (aB Mv (aB F7 (aB aIB (aB aOR aH))))) [1000,1001] [(1000,1000),(1001,1001)] 2 rfl rfl rfl rfl rfl (by simp [xY.c]) fun _ l t c _ hl ht hc _=>by
 obtain ⟨x,o⟩:=c
 obtain ⟨d,s,a⟩:=l
 replace ht:cC t:=ht
 replace hc:iZ (x,o):=hc
 have v1:=kC hc
 have v2:=jX hc
 simp at hl
 refine ⟨⟨_,_,rfl⟩,0,?_⟩
 cases o with
 | none=>
  simp only [aF] at v1 v2
  simp [xY.c,bK,aK,aF,aN,ht,hl,v1,v2,cT]
 | some R=>
  simp only [aF] at v1 v2
  obtain ⟨r1,r2,r3⟩:=hc.2 R rfl
  have v3:=Kd r1
  have v4:=Jr r1
  by_cases h:d<41317<;>simp [xY.c,bK,aK,aF,aN,ht,hl,v1,v2,v3,v4,r2,r3,cT,h]
theorem aC8 (R:List Pc) (l:Int×Int×Int):(-0x80000000000000000000000000000000<=(mT R l).1/\(mT R l).1<0x80000000000000000000000000000000)/\0<=(mT R l).2/\(mT R l).2<=12:=by
 have key : ∀ ps:List Pc,(-0x80000000000000000000000000000000<=(kW ps l).1/\(kW ps l).1<0x80000000000000000000000000000000)/\0<=(kW ps l).2/\(kW ps l).2<=12:=by
  intro ps
  induction ps with
  | nil=>simp [kW]
  | cons p r ih=>
   simp only [kW]
   split
   ·exact ih
   ·split
    ·simp
    ·exact ⟨Eb _ _,by simp⟩
 unfold mT
 split
 ·split
  ·simp
  ·exact key R
 ·simp
theorem aGU (es:List En) (l:Int×Int×Int):0<=uE es l/\uE es l<=12:=by
 unfold uE
 split
 ·split
  ·split
   ·simp
   ·split<;>simp
  ·simp
 ·simp
theorem W8 {es:List En} (hk:Tb.Tk es) (o:Option (List Pc)) (l:Int×Int×Int):(-0x80000000000000000000000000000000<=(cT es o l).1/\(cT es o l).1<0x80000000000000000000000000000000)/\0<=(cT es o l).2/\(cT es o l).2<=12:=by
 have h1:=aAS hk l
 have h2:=aGU es l
 unfold cT
 cases o with
 | none=>
  dsimp only
  exact ⟨by omega,h2⟩
 | some R=>
  dsimp only
  split
  ·exact aC8 R l
  ·exact ⟨by dsimp only;omega,h2⟩
noncomputable abbrev aJX:=s4 (cV 1001) dV dF hJ rD fun _ l t c=> .io [1000,1001] [.g (aW t),.g (aK c)] [bv (decide ((cT t.es c.2 l).2=0))]
theorem aLT:Ok Tryz.prog 226 aJX:=tP (aG Tryz.func226 Dv.ent Dv.aA (aB Zf aH)) [1000,1001] [(1000,1000),(1001,1001)] 2 rfl rfl rfl rfl rfl (by simp [Dv.c]) fun _ l t c _ hl ht hc _=>by
 obtain ⟨x,o⟩:=c
 obtain ⟨d,s,a⟩:=l
 replace ht:cC t:=ht
 replace hc:iZ (x,o):=hc
 have v1:=kC hc
 have v2:=jX hc
 simp at hl
 refine ⟨⟨_,_,rfl⟩,0,?_⟩
 cases o<;>simp only [aF] at v1 v2<;>simp [Dv.c,bK,aK,aF,aN,ht,hl,v1,v2]
def qJ:Co Bool where
 e b:= .c (.v (.bool b))
 p _:=True
 v a:=(match a with | .c (.v (.bool _))=>true | _=>false)=true
 dv _:=inferInstance
 t a:=match a with | .c (.v (.bool b))=>b | _=>false
 some {a} h:=by
  cases a with
  | g l=>cases h
  | c a=>
   cases a with
   | v x=>cases x<;>first | exact ⟨rfl,trivial⟩ | cases h
   | _=>cases h
 enc _:=⟨rfl,rfl⟩
theorem Yw {b:Bool} : qJ.e b = .c (.v (.bool b)):=_root_.id rfl
theorem aNC {b:Bool} : qJ.v (.c (.v (.bool b)))=True:=by simp [qJ]
theorem aNw {b:Bool} : qJ.t (.c (.v (.bool b)))=b:=_root_.id rfl
theorem aKy {b:Bool} : qJ.p b=True:=_root_.id rfl
attribute [simp] Yw aNC aNw aKy
abbrev lI (l:Int×Int×Int):Prop:=(-0x8000000000000000<=l.1/\l.1<0x8000000000000000)/\(-0x8000000000000000<=l.2.1/\l.2.1<0x8000000000000000)/\(-0x8000000000000000<=l.2.2/\l.2.2<0x8000000000000000)
theorem aBh (es:List En) (t:Int):lI (uL es t).1:=by
 unfold uL
 split
 ·split
  ·split
   ·rename_i h
    unfold bS at h
    refine ⟨by dsimp only;omega,?_,by dsimp only;omega⟩
    unfold Hl
    dsimp only
    split<;>omega
   ·decide
  ·decide
 ·exact (by decide:lI (0,0,0))
theorem aQe (p:Pc) {u:Int} (h : -0x80000000000000000000000000000000<=u/\u<0x80000000000000000000000000000000):lI (Gq p u):=by
 obtain ⟨h1,h2,h3⟩:=Ro h
 unfold Gq
 split<;>exact ⟨by dsimp only;omega,by dsimp only;omega,by dsimp only;omega⟩
theorem aNs (R:List Pc) (t:Int):lI (vC R t).1:=by
 have key : ∀ ps:List Pc,lI (mV ps t).1:=by
  intro ps
  induction ps with
  | nil=>exact (by decide:lI (0,0,0))
  | cons p r ih=>
   simp only [mV]
   split
   ·exact aQe p (O7 p t)
   ·exact ih
 unfold vC
 split
 ·exact ⟨by decide,by decide,by decide⟩
 ·exact key R
theorem Yb (es:List En) (o:Option (List Pc)) (t:Int):lI (cL es o t).1:=by
 unfold cL
 cases o with
 | none=>exact aBh es t
 | some R=>
  dsimp only
  split
  ·exact aNs R t
  ·exact aBh es t
noncomputable abbrev aK4:=s5 (cV 1001) dV qJ dF hJ Cp fun _ l lax t c=> .io [1000,1001] [.g (aW t),.g (aK c)] [wd (eX t.es c.2 c.1 lax l).1,iv .i64 (eX t.es c.2 c.1 lax l).2]
theorem Of:Ok Tryz.prog 65 aK4:=xU (aG Tryz.func65 tG.ent tG.aA (aB Zf (aB F0 aH))) [1000,1001] [(1000,1000),(1001,1001)] 3 rfl rfl rfl rfl rfl (by simp [tG.c]) fun _ l lax t c _ hl _ ht hc _=>by
 obtain ⟨x,o⟩:=c
 obtain ⟨d,s,a⟩:=l
 replace ht:cC t:=ht
 replace hc:iZ (x,o):=hc
 have v1:=kC hc
 have v2:=jX hc
 simp at hl
 refine ⟨⟨_,_,rfl⟩,0,?_⟩
 by_cases h1:(cT t.es o (d,s,a)).2=0
 ·cases lax with
  | true=>cases o<;>simp only [aF] at v1 v2<;>simp [tG.c,bK,aK,aF,aN,ht,hl,v1,v2,eX,h1]
  | false=>
   by_cases h2:Dn x (d,s,a)
   ·cases o<;>simp only [aF] at v1 v2<;>simp [tG.c,bK,aK,aF,aN,ht,hl,v1,v2,eX,h1,h2,cE,cD]
   ·cases o<;>simp only [aF] at v1 v2<;>simp [tG.c,bK,aK,aF,aN,ht,hl,v1,v2,eX,h1,h2]
 ·cases o<;>simp only [aF] at v1 v2<;>simp [tG.c,bK,aK,aF,aN,ht,hl,v1,v2,eX,h1,cE,cD]
noncomputable abbrev aND:=s4 (cV 1001) bN dF hJ rD fun _ y t c=> .io [1000,1001] [.g (aW t),.g (aK c)] [rH (cL t.es c.2 y).1,iv .i64 (cL t.es c.2 y).2]
theorem aLX:Ok Tryz.prog 133 aND:=tP (aG Tryz.func133 wX.ent wX.aA (aB Mv (aB F7 (aB aCK (aB aBK aH))))) [1000,1001] [(1000,1000),(1001,1001)] 2 rfl rfl rfl rfl rfl (by simp [wX.c]) fun _ y t c _ hy ht hc _=>by
 obtain ⟨x,o⟩:=c
 replace ht:cC t:=ht
 replace hc:iZ (x,o):=hc
 have v1:=kC hc
 have v2:=jX hc
 simp at hy
 refine ⟨⟨_,_,rfl⟩,0,?_⟩
 cases o with
 | none=>
  simp only [aF] at v1 v2
  simp [wX.c,bK,aK,aF,aN,ht,hy,v1,v2,cL]
 | some R=>
  simp only [aF] at v1 v2
  obtain ⟨r1,r2,r3⟩:=hc.2 R rfl
  have v3:=Kd r1
  have v4:=Jr r1
  by_cases h:(uL t.es y).2=8<;>simp [wX.c,bK,aK,aF,aN,ht,hy,v1,v2,v3,v4,r2,r3,cL,h]
noncomputable abbrev aQx:=s5 (cV 1001) bN qJ dF hJ Cp fun _ y lax t c=> .io [1000,1001] [.g (aW t),.g (aK c)] [rH (kB t.es c.2 c.1 lax y).1,iv .i64 (kB t.es c.2 c.1 lax y).2]
theorem Q8:Ok Tryz.prog 100 aQx:=xU (aG Tryz.func100 uQ.ent uQ.aA (aB aLX (aB F0 aH))) [1000,1001] [(1000,1000),(1001,1001)] 3 rfl rfl rfl rfl rfl (by simp [uQ.c]) fun _ y lax t c _ hy _ ht hc _=>by
 obtain ⟨x,o⟩:=c
 replace ht:cC t:=ht
 replace hc:iZ (x,o):=hc
 have v1:=kC hc
 have v2:=jX hc
 simp at hy
 have hr:=Yb t.es o y
 refine ⟨⟨_,_,rfl⟩,0,?_⟩
 by_cases h1:(cL t.es o y).2=0
 ·cases lax with
  | true=>cases o<;>simp only [aF] at v1 v2<;>simp [uQ.c,bK,aK,aF,aN,ht,hy,v1,v2,kB,h1]
  | false=>
   by_cases h2:Dn x (cL t.es o y).1<;>cases o<;>simp only [aF] at v1 v2<;>simp [uQ.c,bK,aK,aF,aN,ht,hy,v1,v2,kB,h1,h2,hr]
 ·cases o<;>simp only [aF] at v1 v2<;>simp [uQ.c,bK,aK,aF,aN,ht,hy,v1,v2,kB,h1]
end Go.Proofs.YtfcbohachbeamaaGreatDoor.E
end
section
namespace Go.Proofs.YtfcbohachbeamaaGreatDoor.E
open Go.VC Go.RowKit
theorem Rf {t:bC} (hp:bV.p t) (h:dG t):cC t:=⟨hp,h.1,h.2.1⟩
theorem U0 {t:bC} (hp:bV.p t):iZ (t.x,oR t.es):=by
 refine ⟨hp.2.1,fun R h=> ?_⟩
 unfold oR at h
 dsimp only at h
 split at h
 ·cases h
  exact ⟨aK0,M3.1,M3.2⟩
 ·cases h
noncomputable abbrev aQK:=s3 bV (fR (.c .u)) (fR (.c .u)) lB fun t _ _=>if (eY t).2=0 then .io [1000,1001] [.g (aW t),.g (aK (t.x,oR t.es))] [.c (.p 1001 0),iv .i64 0] else .io [1000,1001] [.c .u,.c .u] [.c (.v (.pointer none)),iv .i64 (eY t).2]
theorem aMT:Ok Tryz.prog 58 aQK:=nK (aG Tryz.func58 uK.ent uK.aA (aB aDv (aB Ms (aB aJm (aB aRJ aH))))) [1000,1001] [(900,1000),(19,1001)] 1 rfl rfl rfl rfl rfl (by simp [uK.c]) fun t _ _ ht _ _ _=>by
 have hp:=ht
 obtain ⟨p1,p2,p3⟩:=ht
 refine ⟨?_,0,?_⟩
 ·split<;>exact ⟨_,_,rfl⟩
 by_cases h:(eY t).2=0
 ·have hm:dG t:=by rw [Na] at h;exact h
  have hT:=Rf hp hm
  have hk:=iE hT
  have n0:=hk.n0
  have q1:=Om n0
  have hl:2<=t.es.length*2:=by omega
  have a1:=hk.d 0 n0
  have a2:=hk.o 0 n0
  have v1:=aBq hT
  have v2:=aAU hT
  rw [a1.2.2] at q1
  simp at q1
  have hr1:(qE t.es)[1]? = some (.v (.int .i64 (Tb.O t.es 0))):=by rw [q1];rfl
  have hl1:1<=t.es.length*2-1:=by omega
  have hi:bD t.u/\bD t.x:=⟨p1,p2⟩
  clear q1
  have z0:IntKind.i64.wrap 0=0:=rfl
  by_cases h1:Tb.D t.es 0=41317
  ·by_cases h2:Tb.O t.es 0=10
   ·have e:oR t.es=some qU:=if_pos ⟨h1,h2⟩
    have r1:Dw.v (.c (.q 4 (eV jP)))=True:=aA0
    have r2:Dw.t (.c (.q 4 (eV jP)))=jP:=Xw
    have r3:=Si.1
    have r4 : ∀ x∈mA (jP.map iG) 41317 10,lW x=false:=by simpa using Si.2
    simp [uK.c,p1,p2,p3,h,v1,v2,h1,h2,hl,hl1,hr1,iC,e,aK,aF]
    exact ⟨hi,⟨by rw [r1];trivial,by rw [r2];exact r3,by rw [r2];exact r4⟩,by rw [r2];rfl⟩
   ·have e:oR t.es=none:=if_neg (fun h=>h2 h.2)
    simp [uK.c,p1,p2,p3,h,v1,v2,h1,h2,hl,hl1,hr1,iC,e,aK,aF]
    exact hi
  ·have e:oR t.es=none:=if_neg (fun h=>h1 h.1)
   simp [uK.c,p1,p2,p3,h,v1,v2,h1,e,aK,aF]
   exact hi
 ·simp [uK.c,p1,p2,p3,h]
  exact ⟨p1,p2⟩
def iH (n:Int):Prop:=1<=n/\n<=4
instance (n:Int):Decidable (iH n):=inferInstanceAs (Decidable (_/\_))
def zl (n:Int):Int×Int×Int:=if n=1 then (36204,0,0) else if n=2 then (51544,43167,0xb5303ad38b80000) else if n=3 then (44244,19,0) else (40587,0,0)
def zz (n:Int):Int:=jn (zl n)
theorem Hd {n:Int} (h:iH n):n=1∨n=2∨n=3∨n=4:=by unfold iH at h;omega
abbrev aKE:=s1 bF dX fun n=>if iH n then .t [rH (zl n),bv true] else .t [Ih 0 0 0,bv false]
theorem aNR:Ok Tryz.prog 169 aKE:=cA (aG Tryz.func169 yR.ent yR.aA aH) (by simp [yR.c]) fun n hn _=>by
 simp at hn
 refine ⟨0,?_⟩
 by_cases h:iH n
 ·rcases Hd h with rfl | rfl | rfl | rfl<;>simp [yR.c,h,zl]
 ·have h1 : ¬ n=1:=fun e=>h (by unfold iH;omega)
  have h2 : ¬ n=2:=fun e=>h (by unfold iH;omega)
  have h3 : ¬ n=3:=fun e=>h (by unfold iH;omega)
  have h4 : ¬ n=4:=fun e=>h (by unfold iH;omega)
  simp [yR.c,h,h1,h2,h3,h4]
theorem Jb {n:Int} (h:iH n):((-0x8000000000000000<=(zl n).1/\(zl n).1<0x8000000000000000)/\(-0x8000000000000000<=(zl n).2.1/\(zl n).2.1<0x8000000000000000)/\(-0x8000000000000000<=(zl n).2.2/\(zl n).2.2<0x8000000000000000))/\xI (zl n)=0/\0<=zz n/\zz n<0x204fce5e3e25026110000000:=by
 rcases Hd h with rfl | rfl | rfl | rfl<;>exact ⟨by decide,by decide,by decide,by decide⟩
abbrev aHn:=s1 bF dX fun n=>if iH n then .t [wd (zz n),iv .i64 0] else .t [wd 0,iv .i64 1]
theorem z8:Ok Tryz.prog 128 aHn:=cA (aG Tryz.func128 yW.ent yW.aA (aB aNR (aB aG8 aH))) (by simp [yW.c]) fun n hn _=>by
 simp at hn
 refine ⟨0,?_⟩
 by_cases h:iH n
 ·obtain ⟨h1,h2,h3⟩:=Jb h
  simp [yW.c,hn,h,h1,h2,zz]
 ·simp [yW.c,hn,h]
abbrev aFn:=s2 bN bF eO fun t e=>if e=0 then (if bS (t/0xde0b6b3a7640000/86400) then .t [wd t,iv .i64 0] else .t [wd 0,iv .i64 2]) else .t [wd 0,iv .i64 e]
theorem c9:Ok Tryz.prog 129 aFn:=eT (aG Tryz.func129 wP.ent wP.aA (aB Mb aH)) (by simp [wP.c]) fun t e ht he _=>by
 simp at ht he
 refine ⟨0,?_⟩
 by_cases h:e=0
 ·by_cases h2:bS (t/0xde0b6b3a7640000/86400)<;>simp [wP.c,ht,h,h2]
 ·simp [wP.c,ht,he,h]
theorem Gl {t:Int} (h:bS (t/0xde0b6b3a7640000/86400)) : -0x13426172c74d822b878fe800000000<=t/\t<0x13426172c74d822b878fe800000000:=by unfold bS at h;omega
abbrev tTo:=s2 bF bN eO fun n t=>if iH n then (if bS (t/0xde0b6b3a7640000/86400) then .t [wd (t-zz n),iv .i64 0] else .t [wd 0,iv .i64 2]) else .t [wd 0,iv .i64 1]
theorem aM0:Ok Tryz.prog 98 tTo:=eT (aG Tryz.func98 yF.ent yF.aA (aB z8 (aB c9 eQ))) (by simp [yF.c]) fun n t hn ht _=>by
 simp at hn ht
 refine ⟨0,?_⟩
 by_cases h:iH n
 ·obtain ⟨-,-,h3,h4⟩:=Jb h
  have f1 : -0x80000000000000000000000000000000<=zz n/\zz n<0x80000000000000000000000000000000:=by omega
  by_cases h2:bS (t/0xde0b6b3a7640000/86400)
  ·have hr:=Gl h2
   have f2 : -0x80000000000000000000000000000000<=t-zz n/\t-zz n<0x80000000000000000000000000000000:=by omega
   simp [yF.c,hn,ht,h,h2,f1,f2]
  ·simp [yF.c,hn,ht,h,h2]
 ·simp [yF.c,hn,ht,h]
abbrev aFE:=s2 bF bN eO fun n a=>if iH n then (if bS ((a+zz n)/0xde0b6b3a7640000/86400) then .t [wd (a+zz n),iv .i64 0] else .t [wd 0,iv .i64 2]) else .t [wd 0,iv .i64 1]
theorem aCp:Ok Tryz.prog 94 aFE:=eT (aG Tryz.func94 sX.ent sX.aA (aB z8 (aB c9 eQ))) (by simp [sX.c]) fun n a hn ha _=>by
 simp at hn ha
 refine ⟨0,?_⟩
 by_cases h:iH n
 ·obtain ⟨-,-,h3,h4⟩:=Jb h
  have f1 : -0x80000000000000000000000000000000<=zz n/\zz n<0x80000000000000000000000000000000:=by omega
  by_cases h2:bS ((a+zz n)/0xde0b6b3a7640000/86400)
  ·have hr:=Gl h2
   have f2 : -0x80000000000000000000000000000000<=a+zz n/\a+zz n<0x80000000000000000000000000000000:=by omega
   simp [sX.c,hn,ha,h,h2,f1,f2]
  ·by_cases f2 : -0x80000000000000000000000000000000<=a+zz n/\a+zz n<0x80000000000000000000000000000000<;>simp [sX.c,hn,ha,h,h2,f1,f2]
 ·simp [sX.c,hn,ha,h]
theorem aHO:Ok Tryz.prog 183 Vf:=cA (aG Tryz.func183 Bx.ent Bx.aA aH) (by simp [Bx.c]) fun l hl _=>by
 obtain ⟨d,s,a⟩:=l
 simp at hl
 refine ⟨0,?_⟩
 by_cases h1:0<=s<;>by_cases h2:s<=86400<;>by_cases h3:0<=a<;>by_cases h4:a<0xde0b6b3a7640000<;>simp [Bx.c,hl,iJ,h1,h2,h3,h4]
theorem Ll:Ok Tryz.prog 173 Q1:=cA (aG Tryz.func173 Dz.ent Dz.aA eQ) (by simp [Dz.c]) fun n hn _=>by
 simp at hn
 obtain ⟨f1,f2⟩:=Wa hn
 exact ⟨0,by simp [Dz.c,hn,f1,f2]⟩
def xN (l:Int×Int×Int):Int:=((l.1-40587)*86400+l.2.1)*0xde0b6b3a7640000+l.2.2
def xE (l:Int×Int×Int):Int:=if iJ l then (if bS l.1 then 0 else 2) else 1
abbrev aId:=s1 dV dX fun l=> .t [wd (if xE l=0 then xN l else 0),iv .i64 (xE l)]
theorem aEG:Ok Tryz.prog 134 aId:=cA (aG Tryz.func134 uX.ent uX.aA (aB aHO (aB Ll eQ))) (by simp [uX.c]) fun l hl _=>by
 obtain ⟨d,s,a⟩:=l
 simp at hl
 refine ⟨0,?_⟩
 by_cases h1:iJ (d,s,a)
 ·by_cases h2:bS d
  ·have e:xE (d,s,a)=0:=by unfold xE;rw [if_pos h1,if_pos h2]
   have h1':=h1
   have h2':=h2
   simp only [iJ,bS] at h1' h2'
   have c1 : ¬ d < -1099511627776:=by omega
   have c1' : -1099511627776<=d:=by omega
   have c2 : ¬ 1099511627776<d:=by omega
   have c2':d<=1099511627776:=by omega
   have w1:IntKind.i64.wrap (d-40587)=d-40587:=aD (by omega) (by omega)
   have w2:IntKind.i64.wrap ((d-40587)*86400)=(d-40587)*86400:=aD (by omega) (by omega)
   have w3:IntKind.i64.wrap ((d-40587)*86400+s)=(d-40587)*86400+s:=aD (by omega) (by omega)
   have f1 : -0x8000000000000000<=(d-40587)*86400+s/\(d-40587)*86400+s<0x8000000000000000:=by omega
   have f2 : -0x80000000000000000000000000000000<=((d-40587)*86400+s)*0xde0b6b3a7640000/\((d-40587)*86400+s)*0xde0b6b3a7640000<0x80000000000000000000000000000000:=by omega
   have f3 : -0x80000000000000000000000000000000<=a/\a<0x80000000000000000000000000000000:=by omega
   have f4 : -0x80000000000000000000000000000000<=((d-40587)*86400+s)*0xde0b6b3a7640000+a/\((d-40587)*86400+s)*0xde0b6b3a7640000+a<0x80000000000000000000000000000000:=by omega
   simp [uX.c,hl,h1,c1,c1',c2,c2',w1,w2,w3,f1,f2,f3,f4,e,xN]
  ·have e:xE (d,s,a)=2:=by unfold xE;rw [if_pos h1,if_neg h2]
   simp only [bS] at h2
   by_cases c1:d < -1099511627776
   ·simp [uX.c,hl,h1,c1,e,cE,cD]
   ·have c1':=Int.not_lt.1 c1
    have c2:1099511627776<d:=by omega
    simp [uX.c,hl,h1,c1,c1',c2,e,cE,cD]
 ·have e:xE (d,s,a)=1:=by unfold xE;rw [if_neg h1]
  simp [uX.c,hl,h1,e,cE,cD]
abbrev aKe:=s1 bN dX fun n=>if bS ((n+0xb54b02aa47f853cb2000000)/0xde0b6b3a7640000/86400) then .t [rH (eP (n+0xb54b02aa47f853cb2000000)),iv .i64 0] else .t [Ih 0 0 0,iv .i64 2]
theorem aQJ:Ok Tryz.prog 225 aKe:=cA (aG Tryz.func225 wO.ent wO.aA (aB Ll (aB Mb eQ))) (by simp [wO.c]) fun n hn _=>by
 simp at hn
 refine ⟨0,?_⟩
 by_cases h2:bS ((n+0xb54b02aa47f853cb2000000)/0xde0b6b3a7640000/86400)
 ·have hr:=Gl h2
  have f2 : -0x80000000000000000000000000000000<=n+0xb54b02aa47f853cb2000000/\n+0xb54b02aa47f853cb2000000<0x80000000000000000000000000000000:=by omega
  simp [wO.c,hn,h2,f2]
 ·by_cases f2 : -0x80000000000000000000000000000000<=n+0xb54b02aa47f853cb2000000/\n+0xb54b02aa47f853cb2000000<0x80000000000000000000000000000000<;>simp [wO.c,hn,h2,f2]
def xL (es:List En) (o:Option (List Pc)) (n:Int):((Int×Int×Int)×(Int×Int×Int))×Int×Int:=
 if bS ((n+0xb54b02aa47f853cb2000000)/0xde0b6b3a7640000/86400) then
  (if (eP (n+0xb54b02aa47f853cb2000000)).2.1=0/\(cT es o ((eP (n+0xb54b02aa47f853cb2000000)).1-1,86400,(eP (n+0xb54b02aa47f853cb2000000)).2.2)).2=0 then
   (if (cT es o (eP (n+0xb54b02aa47f853cb2000000))).2=0 then ((((eP (n+0xb54b02aa47f853cb2000000)).1-1,86400,(eP (n+0xb54b02aa47f853cb2000000)).2.2),eP (n+0xb54b02aa47f853cb2000000)),2,0)
    else ((((eP (n+0xb54b02aa47f853cb2000000)).1-1,86400,(eP (n+0xb54b02aa47f853cb2000000)).2.2),((eP (n+0xb54b02aa47f853cb2000000)).1-1,86400,(eP (n+0xb54b02aa47f853cb2000000)).2.2)),1,0))
  else (if (cT es o (eP (n+0xb54b02aa47f853cb2000000))).2=0 then ((eP (n+0xb54b02aa47f853cb2000000),eP (n+0xb54b02aa47f853cb2000000)),1,0) else (((0,0,0),(0,0,0)),0,(cT es o (eP (n+0xb54b02aa47f853cb2000000))).2)))
 else (((0,0,0),(0,0,0)),0,2)
noncomputable abbrev aPx:=s4 (cV 1001) bN dF hJ rD fun _ n t c=> .io [1000,1001] [.g (aW t),.g (aK c)] [rH (xL t.es c.2 n).1.1,rH (xL t.es c.2 n).1.2,iv .i64 (xL t.es c.2 n).2.1,iv .i64 (xL t.es c.2 n).2.2]
theorem aJh:Ok Tryz.prog 172 aPx:=tP (aG Tryz.func172 nR.ent nR.aA (aB aQJ (aB aLT (aB Of aH)))) [1000,1001] [(1000,1000),(1001,1001)] 2 rfl rfl rfl rfl rfl (by simp [nR.c]) fun _ n t c _ hn ht hc _=>by
 obtain ⟨x,o⟩:=c
 replace ht:cC t:=ht
 replace hc:iZ (x,o):=hc
 have v1:=kC hc
 have v2:=jX hc
 simp at hn
 refine ⟨⟨_,_,rfl⟩,0,?_⟩
 by_cases h1:bS ((n+0xb54b02aa47f853cb2000000)/0xde0b6b3a7640000/86400)
 ·have h1':=h1
  simp only [bS] at h1'
  obtain ⟨d,s,a,hS⟩ : ∃ d s a,eP (n+0xb54b02aa47f853cb2000000)=(d,s,a):=⟨_,_,_,rfl⟩
  have hr:lI (d,s,a) /\ -0x7ffffffffffffcd8<=d:=by
   simp only [eP,Prod.mk.injEq] at hS
   obtain ⟨rfl,rfl,rfl⟩:=hS
   exact ⟨⟨by dsimp only;omega,by dsimp only;omega,by dsimp only;omega⟩,by omega⟩
  obtain ⟨⟨r1,r2,r3⟩,r4⟩:=hr
  dsimp only at r1 r2 r3
  have w1:IntKind.i64.wrap (d-1)=d-1:=aD (by omega) (by omega)
  have r5 : -0x8000000000000000<=d-1/\d-1<0x8000000000000000:=by omega
  by_cases h2:(cT t.es o (d,s,a)).2=0
  ·by_cases h3:s=0
   ·subst h3
    by_cases h4:(cT t.es o (d-1,86400,a)).2=0<;>cases o<;>simp only [aF] at v1 v2<;>simp [nR.c,bK,aK,aF,aN,ht,hn,v1,v2,xL,h1,hS,w1,r1,r2,r3,r5,h2,h4,eX]
   ·cases o<;>simp only [aF] at v1 v2<;>simp [nR.c,bK,aK,aF,aN,ht,hn,v1,v2,xL,h1,hS,w1,r1,r2,r3,r5,h2,h3,eX]
  ·by_cases h3:s=0
   ·subst h3
    by_cases h4:(cT t.es o (d-1,86400,a)).2=0<;>cases o<;>simp only [aF] at v1 v2<;>simp [nR.c,bK,aK,aF,aN,ht,hn,v1,v2,xL,h1,hS,w1,r1,r2,r3,r5,h2,h4,eX]
   ·cases o<;>simp only [aF] at v1 v2<;>simp [nR.c,bK,aK,aF,aN,ht,hn,v1,v2,xL,h1,hS,w1,r1,r2,r3,r5,h2,h3,eX]
 ·cases o<;>simp only [aF] at v1 v2<;>simp [nR.c,bK,aK,aF,aN,ht,hn,v1,v2,xL,h1]
theorem n7 (es:List En) (hk:Tb.Tk es) (o:Option (List Pc)) (n:Int):(lI (xL es o n).1.1/\lI (xL es o n).1.2)/\(0<=(xL es o n).2.1/\(xL es o n).2.1<=2)/\0<=(xL es o n).2.2/\(xL es o n).2.2<=12:=by
 have hz:lI (0,0,0):=by decide
 unfold xL
 split
 ·rename_i h
  have h1:lI (eP (n+0xb54b02aa47f853cb2000000))/\lI ((eP (n+0xb54b02aa47f853cb2000000)).1-1,86400,(eP (n+0xb54b02aa47f853cb2000000)).2.2):=by
   simp only [bS] at h
   simp only [eP]
   exact ⟨⟨by dsimp only;omega,by dsimp only;omega,by dsimp only;omega⟩,by dsimp only;omega,by dsimp only;omega,by dsimp only;omega⟩
  have h2:=(W8 hk o (eP (n+0xb54b02aa47f853cb2000000))).2
  split
  ·split
   ·exact ⟨⟨h1.2,h1.1⟩,by dsimp only;omega,by dsimp only;omega⟩
   ·exact ⟨⟨h1.2,h1.2⟩,by dsimp only;omega,by dsimp only;omega⟩
  ·split
   ·exact ⟨⟨h1.1,h1.1⟩,by dsimp only;omega,by dsimp only;omega⟩
   ·exact ⟨⟨hz,hz⟩,by dsimp only;omega,h2⟩
 ·exact ⟨⟨hz,hz⟩,by dsimp only;omega,by dsimp only;omega⟩
def xF (es:List En) (o:Option (List Pc)) (n pick:Int):(Int×Int×Int)×Int:=
 if (xL es o n).2.2=0 then (if (xL es o n).2.1=1∨pick=2 then ((xL es o n).1.2,0) else if pick=1 then ((xL es o n).1.1,0) else ((0,0,0),7)) else ((0,0,0),(xL es o n).2.2)
noncomputable abbrev aKN:=s5 (cV 1001) bN bF dF hJ Cp fun _ n p t c=> .io [1000,1001] [.g (aW t),.g (aK c)] [rH (xF t.es c.2 n p).1,iv .i64 (xF t.es c.2 n p).2]
theorem aF2:Ok Tryz.prog 130 aKN:=xU (aG Tryz.func130 rA.ent rA.aA (aB aJh aH)) [1000,1001] [(1000,1000),(1001,1001)] 3 rfl rfl rfl rfl rfl (by simp [rA.c]) fun _ n p t c _ hn hp ht hc _=>by
 obtain ⟨x,o⟩:=c
 replace ht:cC t:=ht
 replace hc:iZ (x,o):=hc
 have v1:=kC hc
 have v2:=jX hc
 simp at hn hp
 refine ⟨⟨_,_,rfl⟩,0,?_⟩
 by_cases h1:(xL t.es o n).2.2=0
 ·by_cases h2:(xL t.es o n).2.1=1
  ·cases o<;>simp only [aF] at v1 v2<;>simp [rA.c,bK,aK,aF,aN,ht,hn,hp,v1,v2,xF,h1,h2]
  ·by_cases h3:p=2
   ·cases o<;>simp only [aF] at v1 v2<;>simp [rA.c,bK,aK,aF,aN,ht,hn,hp,v1,v2,xF,h1,h2,h3]
   ·by_cases h4:p=1
    ·cases o<;>simp only [aF] at v1 v2<;>simp [rA.c,bK,aK,aF,aN,ht,hn,hp,v1,v2,xF,h1,h2,h4]
    ·cases o<;>simp only [aF] at v1 v2<;>simp [rA.c,bK,aK,aF,aN,ht,hn,hp,v1,v2,xF,h1,h2,h3,h4]
 ·cases o<;>simp only [aF] at v1 v2<;>simp [rA.c,bK,aK,aF,aN,ht,hn,hp,v1,v2,xF,h1]
abbrev aQo:=s1 bN dX fun n=>if -0x80000000000000000000000000000000<=n+2208988800*0xde0b6b3a7640000/\n+2208988800*0xde0b6b3a7640000<0x80000000000000000000000000000000 then .t [wd (n+2208988800*0xde0b6b3a7640000),iv .i64 0] else .t [wd 0,iv .i64 2]
theorem aJD:Ok Tryz.prog 135 aQo:=cA (aG Tryz.func135 Cl.ent Cl.aA (aB Ll eQ)) (by simp [Cl.c]) fun n hn _=>by
 simp at hn
 refine ⟨0,?_⟩
 by_cases h : -0x80000000000000000000000000000000<=n+0x7233b92cc3d1a9eea000000/\n+0x7233b92cc3d1a9eea000000<0x80000000000000000000000000000000<;>simp [Cl.c,hn,h]
abbrev aBV:=s1 bN dX fun n=>if -0x80000000000000000000000000000000<=n-2208988800*0xde0b6b3a7640000/\n-2208988800*0xde0b6b3a7640000<0x80000000000000000000000000000000 then .t [wd (n-2208988800*0xde0b6b3a7640000),iv .i64 0] else .t [wd 0,iv .i64 2]
theorem aMI:Ok Tryz.prog 131 aBV:=cA (aG Tryz.func131 Cw.ent Cw.aA (aB Ll eQ)) (by simp [Cw.c]) fun n hn _=>by
 simp at hn
 refine ⟨0,?_⟩
 by_cases h : -0x80000000000000000000000000000000<=n-0x7233b92cc3d1a9eea000000/\n-0x7233b92cc3d1a9eea000000<0x80000000000000000000000000000000<;>simp [Cw.c,hn,h]
def eM (es:List En) (x:Int):Nat:=Tb.fst (Tb.lN es x) es.length
def Ik (es:List En) (x:Int):Wn:=if eM es x<es.length then win es (eM es x) else ⟨0,0,0,0⟩
theorem aD0 {es:List En} {x:Int} {j:Nat} (hj:j+1<es.length) (h : ∀ i,i<j+1 -> ¬ Tb.lN es x i) (h1:Tb.wS es (j+1)<=x) (h2:x<Tb.wE es (j+1)):eM es x=j+1:=Tb.Im hj h ⟨by omega,hj,h1,h2⟩
theorem C4 {es:List En} {x:Int} (h : ∀ i,i<es.length -> ¬ Tb.lN es x i):eM es x=es.length:=Tb.Lz h
theorem Zu (l:List Wn):(AV.o (.c (mS l))).zJ=some l.length:=by
 unfold mS
 by_cases h:l = []
 ·subst h;rfl
 ·rw [if_neg h]
  show some ((B4 l).length/7)=_
  rw [aFZ]
theorem n6 {ρ : List (Nat×Nat)} (l:List Wn):AC.gH ρ (mS l)=some (mS l):=by
 unfold mS;split<;>rfl
theorem A4 {ns:List Nat} (l:List Wn):AC.kill ns (mS l)=mS l:=by
 unfold mS;split<;>rfl
theorem aBo {es:List En} {k:Nat} (h:0<k):mS (gJ es k) = .q 7 (B4 (gJ es k)):=by
 unfold mS
 rw [if_neg]
 intro e
 have:=congrArg List.length e
 rw [xO] at this
 simp at this;omega
noncomputable abbrev aNc:=s3 (cV 1000) bN dF lB fun _ x t=> .io [1000] [.g (aW t)] [.g (iR (Ik t.es x)),bv (decide (eM t.es x<t.es.length))]
theorem aDS:Ok Tryz.prog 185 aNc:=nK (aG Tryz.func185 oW.ent oW.aA (aB n9 eQ)) [1000] [(1000,1000)] 2 rfl rfl rfl rfl rfl (by simp [oW.c]) fun _ x t _ hx ht _=>by
 replace ht:cC t:=ht
 simp at hx
 have hk:=iE ht
 have n1:=hk.n1
 have n0:=hk.n0
 refine ⟨⟨_,_,rfl⟩,t.es.length+1,?_⟩
 simp only [oW.c,fL,fC,fJ,fG]
 simp [-AV.zJ,aN,ht,Zu,n6,xO]
 refine lL (fun m s=> ∃ j:Nat,j<=t.es.length-1/\m=t.es.length-1-j/\(∀ i,i<j+1 -> ¬ Tb.lN t.es x i)/\s.tm 3 = .o (.c (.p 3 0))/\s.tm 4 = .o (.c (.p 4 0))/\s.tm 9 = .o (.c (mS (gJ t.es (t.es.length-1))))/\s.tm 10 = .o (iv .i64 ((t.es.length-1:Nat):Int))/\s.tm 11 = .o (iv .i64 (j:Int)) /\
  s.mem 1000=some (aW t)/\s.mem 3=some [.v (.int .i64 (aQ x)),.v (.int .u64 (aT x))]/\s.mem 4=some [.v (.int .i64 0),.v (.int .u64 0),.v (.int .i64 0),.v (.int .u64 0),.v (.int .i64 0),.v (.int .u64 0),.v (.int .i64 0)]) ?_ (t.es.length+1) (t.es.length-1) _ (by omega) ?_
 ·rintro m s ⟨j,hj,rfl,hno,t3,t4,t9,t10,t11,m1000,m3,m4⟩
  by_cases hlt:j<t.es.length-1
  ·have c1:(j:Int)<((t.es.length-1:Nat):Int):=by omega
   have w0:IntKind.i64.wrap ((j:Int)+1)=(j:Int)+1:=aD (by omega) (by omega)
   obtain ⟨hp,-⟩:=Mf hk (i:=j+1) (by omega) (by omega)
   obtain ⟨p1,p2,p3,p4,p5⟩:=hp
   have g1:=Sq (D3 t.es hlt)
   have g2:j*7+7<=(t.es.length-1)*7:=by omega
   have hq:=aBo (es:=t.es) (k:=t.es.length-1) (by omega)
   rw [hq] at t9
   have hl:=Nu (gJ t.es (t.es.length-1))
   rw [xO] at hl
   generalize B4 (gJ t.es (t.es.length-1))=R at *
   have hwin:(win t.es (j+1)).a=Tb.wS t.es (j+1)/\(win t.es (j+1)).b=Tb.wE t.es (j+1):=⟨rfl,rfl⟩
   by_cases h1:Tb.wS t.es (j+1)<=x
   ·by_cases h2:x<Tb.wE t.es (j+1)
    ·have hK:=aD0 (by omega) hno h1 h2
     have hlt':j+1<t.es.length:=by omega
     rw [← hwin.1] at h1
     rw [← hwin.2] at h2
     clear hwin
     simp [oW.l1,t3,t4,t9,t10,t11,m1000,m3,m4,c1,g1,g2,hl,tM,iR,hx,p1,p2,h1,h2,Ik,hK,hlt',rJ]
    ·have hn : ¬ Tb.lN t.es x (j+1):=fun h=>h2 h.2.2.2
     rw [← hwin.1] at h1
     rw [← hwin.2] at h2
     clear hwin
     have h2':=Int.not_lt.1 h2
     simp [oW.l1,t3,t4,t9,t10,t11,m1000,m3,m4,c1,g1,g2,hl,tM,hx,p1,p2,h1,h2,h2',w0,rJ]
     exact ⟨_,by omega,j+1,by omega,rfl,fun i hi=>by
      by_cases h:i=j+1
      ·subst h;exact hn
      ·exact hno i (by omega),hq.symm,by omega⟩
   ·have hn : ¬ Tb.lN t.es x (j+1):=fun h=>h1 h.2.2.1
    rw [← hwin.1] at h1
    clear hwin
    have h1':=Int.not_le.1 h1
    simp [oW.l1,t3,t4,t9,t10,t11,m1000,m3,m4,c1,g1,g2,hl,tM,hx,p1,p2,h1,h1',w0,rJ]
    exact ⟨_,by omega,j+1,by omega,rfl,fun i hi=>by
     by_cases h:i=j+1
     ·subst h;exact hn
     ·exact hno i (by omega),hq.symm,by omega⟩
  ·obtain rfl:j=t.es.length-1:=by omega
   have hK:=C4 (x:=x) (fun i hi=>hno i (by omega))
   simp [oW.l1,t3,t4,t9,t10,t11,m1000,m3,m4,rJ,A4,Ik,hK,iR,cE,cD]
 ·exact ⟨0,by omega,by omega,fun i hi h=>by have:=h.1;omega,by simp,by simp,by simp,by simp,by simp,by simp,by simp,by simp⟩
abbrev aKk:=s1 bN dX fun x=>if bS (x/0xde0b6b3a7640000/86400) then .t [iv .i64 (x/0xde0b6b3a7640000),iv .i64 0] else .t [iv .i64 0,iv .i64 2]
theorem aPT:Ok Tryz.prog 184 aKk:=cA (aG Tryz.func184 zT.ent zT.aA (aB Mb aH)) (by simp [zT.c]) fun x hx _=>by
 simp at hx
 refine ⟨0,?_⟩
 by_cases h:bS (x/0xde0b6b3a7640000/86400)
 ·have h':=h
  unfold bS at h'
  have w1:IntKind.i64.wrap (x/0xde0b6b3a7640000/86400*86400)=x/0xde0b6b3a7640000/86400*86400:=aD (by omega) (by omega)
  have w2:IntKind.i64.wrap (x/0xde0b6b3a7640000/86400*86400+x/0xde0b6b3a7640000%86400)=x/0xde0b6b3a7640000:=(aD (by omega) (by omega)).trans (by omega)
  simp [zT.c,hx,h,eP,w1,w2]
 ·simp [zT.c,hx,h]
theorem aBu {es:List En} (hk:Tb.Tk es):oV es (Tb.D es 0)=Tb.O es 0:=by
 have hi:Tb.In es 0 (Tb.D es 0):=⟨hk.n0,Int.le_refl _,fun h=>hk.lt (by omega) h⟩
 unfold oV
 rw [Tb.aK1 hk hi]
 rfl
noncomputable abbrev aKf:=s2 (cV 1000) dF eO fun _ t=> .io [1000] [.g (aW t)] [wd (Tb.S t.es 0*0xde0b6b3a7640000)]
theorem y9:Ok Tryz.prog 175 aKf:=Hy (aG Tryz.func175 Es.ent Es.aA (aB Ms (aB Qm (aB Pu aH)))) [1000] [(1000,1000)] 1 rfl rfl rfl rfl rfl (by simp [Es.c]) fun _ t _ ht _=>by
 replace ht:cC t:=ht
 have hk:=iE ht
 have a1:=hk.d 0 hk.n0
 have a2:=hk.o 0 hk.n0
 have e1:=aBu hk
 have hS:=Tb.Ks t.es 0
 have f1 : -0x8000000000000000<=Tb.D t.es 0/\Tb.D t.es 0<0x8000000000000000:=by omega
 have w1:IntKind.i64.wrap (Tb.D t.es 0*86400)=Tb.D t.es 0*86400:=aD (by omega) (by omega)
 have w2:IntKind.i64.wrap (Tb.D t.es 0*86400+Tb.O t.es 0)=Tb.S t.es 0:=(aD (by omega) (by omega)).trans (by omega)
 have f2 : -0x8000000000000000<=Tb.S t.es 0/\Tb.S t.es 0<0x8000000000000000:=by omega
 refine ⟨⟨_,_,rfl⟩,0,?_⟩
 simp [Es.c,jW,kE,aN,ht,f1,e1,w1,w2,f2]
theorem M1 {x:Wn} (h:Ba x):Hh.v (.g [.v (.int .i64 (aQ x.a)),.v (.int .u64 (aT x.a)),.v (.int .i64 (aQ x.b)),.v (.int .u64 (aT x.b)),.v (.int .i64 (aQ x.c)),.v (.int .u64 (aT x.c)),.v (.int .i64 x.s)])=True:=aFD h
theorem Z6 {x:Wn} (h:Ba x):Hh.t (.g [.v (.int .i64 (aQ x.a)),.v (.int .u64 (aT x.a)),.v (.int .i64 (aQ x.b)),.v (.int .u64 (aT x.b)),.v (.int .i64 (aQ x.c)),.v (.int .u64 (aT x.c)),.v (.int .i64 x.s)])=x:=aLw h
def jK (es:List En) (x:Int):Int:=if x<Tb.S es 0*0xde0b6b3a7640000 then 8 else if bS (x/0xde0b6b3a7640000/86400) then 0 else 2
def pF (es:List En) (x:Int):Int:=if jK es x=0 then Tb.Pv es x else 0
def Ji (es:List En) (x:Int):Int:=if jK es x=0/\eM es x<es.length then (x-(win es (eM es x)).a)*86400%(86400+(win es (eM es x)).s) else 0
def Ir (es:List En) (x:Int):Int:=if jK es x=0 then (if eM es x<es.length then 86400+(win es (eM es x)).s else 1) else 0
theorem P7 {es:List En} {x:Int} (h:eM es x<es.length):Tb.Pv es x=(win es (eM es x)).c+(x-(win es (eM es x)).a)*86400/(86400+(win es (eM es x)).s):=if_pos h
theorem o6 {es:List En} (hk:Tb.Tk es) {x:Int} (h : ¬ eM es x<es.length) (h0:Tb.S es 0*0xde0b6b3a7640000<=x):Tb.Pv es x=x-(3506716800+aO es (x/0xde0b6b3a7640000))*0xde0b6b3a7640000:=by
 have e:Tb.Pv es x=_:=if_neg h
 rw [e]
 have hs:Tb.S es 0<=x/0xde0b6b3a7640000:=by omega
 obtain ⟨k,hi⟩:=Tb.Md hk hs
 have ha:=Tb.Qa hk hi
 unfold aO
 show (match Tb.pV es (x/0xde0b6b3a7640000) with | some (o,_)=>x-(40587*86400+o)*0xde0b6b3a7640000 | none=>x-40587*86400*0xde0b6b3a7640000)=_
 rw [ha]
 show x-(40587*86400+Tb.O es k)*0xde0b6b3a7640000=x-(3506716800+Tb.O es k)*0xde0b6b3a7640000
 omega
theorem aCA {es:List En} {x:Int} (h:eM es x<es.length):Tb.lN es x (eM es x):=by
 by_cases h2 : ∃ i,Tb.lN es x i
 ·obtain ⟨i,hi⟩:=h2
  by_cases h3 : ∀ i,i<es.length -> ¬ Tb.lN es x i
  ·exact absurd hi (h3 i hi.2.1)
  ·have : ∃ i,i<es.length/\Tb.lN es x i:=⟨i,hi.2.1,hi⟩
   clear h3
   have key : ∀ n,(∃ i,i<n/\Tb.lN es x i)->n<=es.length -> ∃ k,k<n/\(∀ j,j<k -> ¬ Tb.lN es x j)/\Tb.lN es x k:=by
    intro n
    induction n with
    | zero=>rintro ⟨i,h,_⟩;omega
    | succ n ih=>
     rintro ⟨i,h,hi⟩ hn
     by_cases hex : ∃ i,i<n/\Tb.lN es x i
     ·obtain ⟨k,h1,h2,h3⟩:=ih hex (by omega)
      exact ⟨k,by omega,h2,h3⟩
     ·refine ⟨n,by omega,fun j hj hin=>hex ⟨j,hj,hin⟩,?_⟩
      have:i=n:=by
       by_cases he:i=n
       ·exact he
       ·exact absurd ⟨i,by omega,hi⟩ hex
      rw [← this];exact hi
   obtain ⟨k,h1,h2,h3⟩:=key es.length this (Nat.le_refl _)
   have:eM es x=k:=Tb.Im h1 h2 h3
   rw [this];exact h3
 ·have:=C4 (es:=es) (x:=x) (fun i _ hin=>h2 ⟨i,hin⟩)
  omega
theorem X5 {es:List En} (hk:Tb.Tk es) {x:Int} (h:eM es x<es.length):Ba (win es (eM es x))/\(0<=x-(win es (eM es x)).a/\x-(win es (eM es x)).a<=0x152d02c7e14af6800000) /\ -0x1ed09bead87c0378d8e6400000000<=(win es (eM es x)).c/\(win es (eM es x)).c<=0x1ed09bead87c0378d8e6400000000:=by
 obtain ⟨h1,h2,h3,h4⟩:=aCA h
 obtain ⟨r1,r2,r3,r4,r5,r6,r7⟩:=Mf hk h1 h2
 refine ⟨r1,?_,r6,r7⟩
 obtain ⟨j,hj⟩ : ∃ j,eM es x=j+1:=⟨eM es x-1,by omega⟩
 rw [hj] at h2 h3 h4 ⊢
 have a2:=hk.o _ h2
 have a3:=hk.o j (by omega)
 simp only [win,Tb.wS,Tb.wE,Tb.A,Nat.add_sub_cancel] at h3 h4 ⊢
 omega
theorem R8 {a c s x:Int} (h1:0<=x-a/\x-a<=0x152d02c7e14af6800000) (h2 : -0x1ed09bead87c0378d8e6400000000<=c/\c<=0x1ed09bead87c0378d8e6400000000) (h3 : -1<=s/\s<=1) :
 (0<=(x-a)*86400/(86400+s)/\(x-a)*86400/(86400+s)<=0x204fce5e3e25026110000000)/\(0<=(x-a)*86400%(86400+s)/\(x-a)*86400%(86400+s)<86402):=by
 have:s = -1∨s=0∨s=1:=by omega
 rcases this with rfl | rfl | rfl
 ·have e:(86400:Int) + -1=86399:=rfl
  rw [e];omega
 ·have e:(86400:Int)+0=86400:=rfl
  rw [e];omega
 ·have e:(86400:Int)+1=86401:=rfl
  rw [e];omega
noncomputable abbrev aNP:=s3 (cV 1000) bN dF lB fun _ x t=> .io [1000] [.g (aW t)] [wd (pF t.es x),wd (Ji t.es x),wd (Ir t.es x),iv .i64 (jK t.es x)]
theorem aCs:Ok Tryz.prog 136 aNP:=nK (aG Tryz.func136 uU.ent uU.aA (aB y9 (aB aPT (aB aDS (aB X1 (aB aAw (aB Pu (aB aBe (aB aBm eQ))))))))) [1000] [(1000,1000)] 2 rfl rfl rfl rfl rfl (by simp [uU.c]) fun _ x t _ hx ht _=>by
 replace ht:cC t:=ht
 simp at hx
 have hk:=iE ht
 have a1:=hk.d 0 hk.n0
 have a2:=hk.o 0 hk.n0
 have hS:=Tb.Ks t.es 0
 have f1 : -0x80000000000000000000000000000000<=Tb.S t.es 0*0xde0b6b3a7640000/\Tb.S t.es 0*0xde0b6b3a7640000<0x80000000000000000000000000000000:=by omega
 refine ⟨⟨_,_,rfl⟩,0,?_⟩
 by_cases h1:x<Tb.S t.es 0*0xde0b6b3a7640000
 ·simp [uU.c,jK,pF,Ji,Ir,aN,ht,hx,f1,h1,cE,cD]
 ·have h1':=Int.not_lt.1 h1
  by_cases h2:bS (x/0xde0b6b3a7640000/86400)
  ·have h2':=h2
   unfold bS at h2'
   have f2 : -0x8000000000000000<=x/0xde0b6b3a7640000/\x/0xde0b6b3a7640000<0x8000000000000000:=by omega
   by_cases h3:eM t.es x<t.es.length
   ·obtain ⟨r1,r2,r3⟩:=X5 hk h3
    have e1:=P7 h3
    have e2:Ik t.es x=win t.es (eM t.es x):=if_pos h3
    obtain ⟨p1,p2,p3,p4⟩:=r1
    obtain ⟨b1,b2⟩:=R8 (x:=x) r2 r3 p4
    have q1:=M1 ⟨p1,p2,p3,p4⟩
    have q2:=Z6 ⟨p1,p2,p3,p4⟩
    generalize hW:win t.es (eM t.es x)=W at *
    have g1:fz (x-W.a)=x-W.a:=qZ (by omega)
    have g2 : -0x80000000000000000000000000000000<=x-W.a/\x-W.a<0x80000000000000000000000000000000:=by omega
    have g3 : -0x80000000000000000000000000000000<=86400+W.s/\86400+W.s<0x80000000000000000000000000000000:=by omega
    have g4 : -0x80000000000000000000000000000000<=(x-W.a)*86400/(86400+W.s)/\(x-W.a)*86400/(86400+W.s)<0x80000000000000000000000000000000:=by omega
    have g5:fz (W.c+(x-W.a)*86400/(86400+W.s))=W.c+(x-W.a)*86400/(86400+W.s):=qZ (by omega)
    have g6 : ¬ 86400+W.s<=0:=by omega
    simp [uU.c,jK,pF,Ji,Ir,aN,ht,hx,f1,h1,h1',h2,h3,e1,e2,iR,q1,q2,g1,g2,g3,g4,g5,g6,p1,p2,p3,p4,hW]
   ·have e1:=o6 hk h3 h1'
    have e2:Ik t.es x=⟨0,0,0,0⟩:=if_neg h3
    have hs:Tb.S t.es 0<=x/0xde0b6b3a7640000:=by omega
    have e3:0<=aO t.es (x/0xde0b6b3a7640000)/\aO t.es (x/0xde0b6b3a7640000)<=1000:=by
     rcases Sn hk (x/0xde0b6b3a7640000) with h | h
     ·obtain ⟨k,hi⟩:=Tb.Md hk hs
      have:aE t.es (x/0xde0b6b3a7640000)=0:=by unfold aE;rw [Tb.Qa hk hi]
      omega
     ·exact h.2.2.1
    generalize hs':x/0xde0b6b3a7640000=s at *
    have w1:IntKind.i64.wrap (3506716800+aO t.es s)=3506716800+aO t.es s:=aD (by omega) (by omega)
    have g1 : -0x8000000000000000<=3506716800+aO t.es s/\3506716800+aO t.es s<0x8000000000000000:=by omega
    have g2 : -0x80000000000000000000000000000000<=(3506716800+aO t.es s)*0xde0b6b3a7640000/\(3506716800+aO t.es s)*0xde0b6b3a7640000<0x80000000000000000000000000000000:=by omega
    have g3:fz (x-(3506716800+aO t.es s)*0xde0b6b3a7640000)=x-(3506716800+aO t.es s)*0xde0b6b3a7640000:=qZ (by omega)
    simp [uU.c,jK,pF,Ji,Ir,aN,ht,hx,f1,h1,h1',h2,h3,e1,e2,iR,cE,cD,hs',f2,w1,g1,g2,g3]
  ·simp [uU.c,jK,pF,Ji,Ir,aN,ht,hx,f1,h1,h1',h2,cE,cD]
noncomputable abbrev aFP:=s3 (cV 1000) bN dF lB fun _ x t=> .io [1000] [.g (aW t)] [wd (pF t.es x),iv .i64 (jK t.es x)]
theorem aJN:Ok Tryz.prog 102 aFP:=nK (aG Tryz.func102 Ez.ent Ez.aA (aB aCs aH)) [1000] [(1000,1000)] 2 rfl rfl rfl rfl rfl (by simp [Ez.c]) fun _ x t _ hx ht _=>by
 replace ht:cC t:=ht
 simp at hx
 refine ⟨⟨_,_,rfl⟩,0,?_⟩
 simp [Ez.c,aN,ht,hx]
def mH (es:List En) (n:Int):Int:=if n<(Tb.D es 0-40587)*86400*0xde0b6b3a7640000 then 8 else if bS (n/0xde0b6b3a7640000/86400) /\ -1099511577776<=n/0xde0b6b3a7640000/86400/\n/0xde0b6b3a7640000/86400<=1099511577776 then 0 else 2
def mL (es:List En) (n:Int):Int:=if mH es n=0 then Tb.Nn es n else 0
def sJ (es:List En) (n:Int):Nat:=Tb.fst (Tb.uG es n) es.length
theorem aC2 {es:List En} {x:Int} {j:Nat} (hj:j+1<es.length) (h : ∀ i,i<j+1 -> ¬ Tb.uG es x i) (h1:Tb.wF es (j+1)<=x) (h2:x<Tb.wF es (j+1)+86400*0xde0b6b3a7640000):sJ es x=j+1:=Tb.Im hj h ⟨by omega,hj,h1,h2⟩
theorem aJd {es:List En} {x:Int} (h : ∀ i,i<es.length -> ¬ Tb.uG es x i):sJ es x=es.length:=Tb.Lz h
theorem Q2 {es:List En} {x:Int} {k:Nat} (hk:sJ es x=k) (h:k<es.length):Tb.Nn es x=(win es k).a+(if (x-(win es k).c)*(86400+(win es k).s)%86400=0 then (x-(win es k).c)*(86400+(win es k).s)/86400 else (x-(win es k).c)*(86400+(win es k).s)/86400+1):=by
 subst hk
 exact if_pos h
theorem aAy {es:List En} {x:Int} (h : ¬ sJ es x<es.length):Tb.Nn es x=x+(3506716800+oV es (x/0xde0b6b3a7640000/86400+40587))*0xde0b6b3a7640000:=by
 have e:Tb.Nn es x=_:=if_neg h
 rw [e]
 unfold oV
 show (match Tb.sR es (x/0xde0b6b3a7640000/86400+40587) with | some o=>x+(40587*86400+o)*0xde0b6b3a7640000 | none=>x+40587*86400*0xde0b6b3a7640000)=_
 cases Tb.sR es (x/0xde0b6b3a7640000/86400+40587) with
 | none=>show x+40587*86400*0xde0b6b3a7640000=x+(3506716800+0)*0xde0b6b3a7640000;omega
 | some o=>show x+(40587*86400+o)*0xde0b6b3a7640000=x+(3506716800+o)*0xde0b6b3a7640000;omega
theorem U5 {a c s x:Int} (h1:0<=x-c/\x-c<0x124bc0ddd92e56000000) (h3 : -1<=s/\s<=1) :
 (0<=(x-c)*(86400+s)/86400/\(x-c)*(86400+s)/86400<=0x204fce5e3e25026110000000)/\(0<=(x-c)*(86400+s)%86400/\(x-c)*(86400+s)%86400<86400):=by
 have:s = -1∨s=0∨s=1:=by omega
 rcases this with rfl | rfl | rfl
 ·have e:(86400:Int) + -1=86399:=rfl
  rw [e];omega
 ·have e:(86400:Int)+0=86400:=rfl
  rw [e];omega
 ·have e:(86400:Int)+1=86401:=rfl
  rw [e];omega
noncomputable abbrev aJz:=s3 (cV 1000) bN dF lB fun _ x t=> .io [1000] [.g (aW t)] [wd (mL t.es x),iv .i64 (mH t.es x)]
theorem aJL:Ok Tryz.prog 132 aJz:=nK (aG Tryz.func132 jL.ent jL.aA (aB y9 (aB Pu (aB X1 (aB aAw (aB Ms (aB Qm (aB Mb (aB n9 (aB aBe eQ)))))))))) [1000] [(1000,1000)] 2 rfl rfl rfl rfl rfl (by simp [jL.c]) fun _ x t _ hx ht _=>by
 replace ht:cC t:=ht
 simp at hx
 have hk:=iE ht
 have n1:=hk.n1
 have n0:=hk.n0
 have a1:=hk.d 0 hk.n0
 have a2:=hk.o 0 hk.n0
 have e1:=aBu hk
 have hS:=Tb.Ks t.es 0
 have f0 : -0x8000000000000000<=Tb.D t.es 0/\Tb.D t.es 0<0x8000000000000000:=by omega
 have f1 : -0x80000000000000000000000000000000<=Tb.S t.es 0*0xde0b6b3a7640000/\Tb.S t.es 0*0xde0b6b3a7640000<0x80000000000000000000000000000000:=by omega
 have f2 : -0x8000000000000000<=Tb.O t.es 0/\Tb.O t.es 0<0x8000000000000000:=by omega
 have f3 : -0x80000000000000000000000000000000<=Tb.O t.es 0*0xde0b6b3a7640000/\Tb.O t.es 0*0xde0b6b3a7640000<0x80000000000000000000000000000000:=by omega
 have f4:fz (Tb.S t.es 0*0xde0b6b3a7640000-0xb54b02aa47f853cb2000000)=Tb.S t.es 0*0xde0b6b3a7640000-0xb54b02aa47f853cb2000000:=qZ (by omega)
 have f5 : -0x80000000000000000000000000000000<=Tb.S t.es 0*0xde0b6b3a7640000-0xb54b02aa47f853cb2000000/\Tb.S t.es 0*0xde0b6b3a7640000-0xb54b02aa47f853cb2000000<0x80000000000000000000000000000000:=by omega
 have f6:fz (Tb.S t.es 0*0xde0b6b3a7640000-0xb54b02aa47f853cb2000000-Tb.O t.es 0*0xde0b6b3a7640000)=(Tb.D t.es 0-40587)*86400*0xde0b6b3a7640000:=(qZ (by omega)).trans (by omega)
 have f7 : -0x80000000000000000000000000000000<=(Tb.D t.es 0-40587)*86400*0xde0b6b3a7640000/\(Tb.D t.es 0-40587)*86400*0xde0b6b3a7640000<0x80000000000000000000000000000000:=by omega
 refine ⟨⟨_,_,rfl⟩,t.es.length+1,?_⟩
 by_cases h1:x<(Tb.D t.es 0-40587)*86400*0xde0b6b3a7640000
 ·simp [jL.c,mH,mL,aN,jW,kE,ht,hx,f0,f1,f2,f3,f4,f5,f6,f7,e1,h1,cE,cD]
 have h1':=Int.not_lt.1 h1
 by_cases h2:bS (x/0xde0b6b3a7640000/86400)
 ·by_cases h3 : -1099511577776<=x/0xde0b6b3a7640000/86400
  ·by_cases h4:x/0xde0b6b3a7640000/86400<=1099511577776
   ·have hE:mH t.es x=0:=by
     unfold mH;rw [if_neg h1,if_pos ⟨h2,h3,h4⟩]
    simp only [mL,hE,if_true]
    have h3':=Int.not_lt.2 h3
    have h4':=Int.not_lt.2 h4
    simp only [jL.c,fL,fC,fJ,fG]
    simp [-AV.zJ,aN,jW,kE,ht,hx,f0,f1,f2,f3,f4,f5,f6,f7,e1,h1,h1',h2,h3,h3',h4,h4',eP,Zu,n6,xO]
    have hr : -0x13426172c74d822b878fe800000000<=x/\x<=0x13426172c74d822b878fe800000000:=by
     have h2':=h2
     unfold bS at h2'
     omega
    refine lL (fun m s=> ∃ j:Nat,j<=t.es.length-1/\m=t.es.length-1-j/\(∀ i,i<j+1 -> ¬ Tb.uG t.es x i)/\s.tm 0 = .o (.c (.p 1000 0))/\s.tm 3 = .o (.c (.p 3 0))/\s.tm 4 = .o (.c (.p 4 0))/\s.tm 5 = .o (iv .i64 0)/\s.tm 9 = .o (.c (.p 9 0))/\s.tm 58 = .o (.c (mS (gJ t.es (t.es.length-1))))/\s.tm 59 = .o (iv .i64 ((t.es.length-1:Nat):Int))/\s.tm 60 = .o (iv .i64 (j:Int)) /\
     s.mem 1000=some (aW t)/\s.mem 3=some [.v (.int .i64 (aQ x)),.v (.int .u64 (aT x))]/\s.mem 4=some [.v (.int .i64 0),.v (.int .u64 0)]/\s.mem 9=some [.v (.int .i64 (x/0xde0b6b3a7640000/86400)),.v (.int .i64 (x/0xde0b6b3a7640000%86400)),.v (.int .i64 (x%0xde0b6b3a7640000))]) ?_ (t.es.length+1) (t.es.length-1) _ (by omega) ?_
    ·rintro m s ⟨j,hj,rfl,hno,t0,t3,t4,t5,t9,t58,t59,t60,m1000,m3,m4,m9⟩
     by_cases hlt:j<t.es.length-1
     ·have c1:(j:Int)<((t.es.length-1:Nat):Int):=by omega
      have w0:IntKind.i64.wrap ((j:Int)+1)=(j:Int)+1:=aD (by omega) (by omega)
      obtain ⟨hp,r2,r3,r4,r5,r6,r7⟩:=Mf hk (i:=j+1) (by omega) (by omega)
      have q1:=M1 hp
      have q2:=Z6 hp
      obtain ⟨p1,p2,p3,p4⟩:=hp
      have g1:=Sq (D3 t.es hlt)
      have g2:j*7+7<=(t.es.length-1)*7:=by omega
      have hq:=aBo (es:=t.es) (k:=t.es.length-1) (by omega)
      rw [hq] at t58
      have hl:=Nu (gJ t.es (t.es.length-1))
      rw [xO] at hl
      generalize B4 (gJ t.es (t.es.length-1))=R at *
      have hlt':j+1<t.es.length:=by omega
      have hN:Tb.wF t.es (j+1)<=x->x<Tb.wF t.es (j+1)+86400*0xde0b6b3a7640000->sJ t.es x=j+1:=fun h1 h2=>aC2 hlt' hno h1 h2
      have hF:Tb.wF t.es (j+1)=(win t.es (j+1)).c:=rfl
      have hT:=fun h=>Q2 (es:=t.es) (x:=x) (k:=j+1) h hlt'
      have hn : ¬ (Tb.wF t.es (j+1)<=x/\x<Tb.wF t.es (j+1)+86400*0xde0b6b3a7640000) -> ¬ Tb.uG t.es x (j+1):=fun h h'=>h h'.2.2
      rw [hF] at hN hn
      clear hF
      have hgo : ¬ Tb.uG t.es x (j+1) -> ∀ i,i<j+1+1 -> ¬ Tb.uG t.es x i:=fun hn i hi=>by
       by_cases h:i=j+1
       ·subst h;exact hn
       ·exact hno i (by omega)
      generalize win t.es (j+1)=W at *
      have k1:fz (x-W.c)=x-W.c:=qZ (by omega)
      have k2 : -0x80000000000000000000000000000000<=x-W.c/\x-W.c<0x80000000000000000000000000000000:=by omega
      by_cases h5:x-W.c<0
      ·have hn':=hn (by omega)
       simp [jL.l1,t0,t3,t4,t5,t9,t58,t59,t60,m1000,m3,m4,m9,c1,g1,g2,hl,tM,hx,p1,p2,p3,k1,k2,h5,w0,rJ,Lf]
       exact ⟨_,by omega,j+1,by omega,rfl,hgo hn',hq.symm,by omega⟩
      ·have h5':=Int.not_lt.1 h5
       by_cases h6:0x124bc0ddd92e56000000<=x-W.c
       ·have hn':=hn (by omega)
        simp [jL.l1,t0,t3,t4,t5,t9,t58,t59,t60,m1000,m3,m4,m9,c1,g1,g2,hl,tM,hx,p1,p2,p3,k1,k2,h5,h5',h6,w0,rJ,Lf]
        exact ⟨_,by omega,j+1,by omega,rfl,hgo hn',hq.symm,by omega⟩
       ·have h6':=Int.not_le.1 h6
        obtain ⟨b1,b2⟩:=U5 (a:=0) (x:=x) (c:=W.c) ⟨h5',h6'⟩ p4
        have hK:=hN (by omega) (by omega)
        have hT':=hT hK
        have k3 : -0x80000000000000000000000000000000<=86400+W.s/\86400+W.s<0x80000000000000000000000000000000:=by omega
        have k4 : -0x80000000000000000000000000000000<=(x-W.c)*(86400+W.s)/86400/\(x-W.c)*(86400+W.s)/86400<0x80000000000000000000000000000000:=by omega
        have k5 : -0x80000000000000000000000000000000<=(x-W.c)*(86400+W.s)%86400/\(x-W.c)*(86400+W.s)%86400<0x80000000000000000000000000000000:=by omega
        by_cases h7:(x-W.c)*(86400+W.s)%86400=0
        ·have k6:fz (W.a+(x-W.c)*(86400+W.s)/86400)=W.a+(x-W.c)*(86400+W.s)/86400:=qZ (by omega)
         rw [if_pos h7] at hT'
         simp [jL.l1,t0,t3,t4,t5,t9,t58,t59,t60,m1000,m3,m4,m9,c1,g1,g2,hl,tM,hx,q1,q2,p1,p2,p3,k1,k2,k3,k4,k5,k6,h5,h5',h6,h6',h7,w0,rJ,Lf,hT',cE,cD]
        ·have k7:fz ((x-W.c)*(86400+W.s)/86400+1)=(x-W.c)*(86400+W.s)/86400+1:=qZ (by omega)
         have k8 : -0x80000000000000000000000000000000<=(x-W.c)*(86400+W.s)/86400+1/\(x-W.c)*(86400+W.s)/86400+1<0x80000000000000000000000000000000:=by omega
         have k6:fz (W.a+((x-W.c)*(86400+W.s)/86400+1))=W.a+((x-W.c)*(86400+W.s)/86400+1):=qZ (by omega)
         rw [if_neg h7] at hT'
         simp [jL.l1,t0,t3,t4,t5,t9,t58,t59,t60,m1000,m3,m4,m9,c1,g1,g2,hl,tM,hx,q1,q2,p1,p2,p3,k1,k2,k3,k4,k5,k6,k7,k8,h5,h5',h6,h6',h7,w0,rJ,Lf,hT',cE,cD]
     ·obtain rfl:j=t.es.length-1:=by omega
      have hK:=aJd (x:=x) (fun i hi=>hno i (by omega))
      have hT:=aAy (es:=t.es) (x:=x) (by omega)
      have h2':=h2
      unfold bS at h2'
      have w1:IntKind.i64.wrap (x/0xde0b6b3a7640000/86400+40587)=x/0xde0b6b3a7640000/86400+40587:=aD (by omega) (by omega)
      have w2 : -0x8000000000000000<=x/0xde0b6b3a7640000/86400+40587/\x/0xde0b6b3a7640000/86400+40587<0x8000000000000000:=by omega
      have ho:=Lg hk (x/0xde0b6b3a7640000/86400+40587)
      generalize hoo:oV t.es (x/0xde0b6b3a7640000/86400+40587)=o at *
      have w3:IntKind.i64.wrap (3506716800+o)=3506716800+o:=aD (by omega) (by omega)
      have w4 : -0x8000000000000000<=3506716800+o/\3506716800+o<0x8000000000000000:=by omega
      have w5 : -0x80000000000000000000000000000000<=(3506716800+o)*0xde0b6b3a7640000/\(3506716800+o)*0xde0b6b3a7640000<0x80000000000000000000000000000000:=by omega
      have w6:fz (x+(3506716800+o)*0xde0b6b3a7640000)=x+(3506716800+o)*0xde0b6b3a7640000:=qZ (by omega)
      simp [jL.l1,t0,t3,t4,t5,t9,t58,t59,t60,m1000,m3,m4,m9,rJ,A4,aN,ht,hx,hT,w1,w2,w3,w4,w5,w6,hoo]
    ·exact ⟨0,by omega,by omega,fun i hi h=>by have:=h.1;omega,by simp,by simp,by simp,by simp,by simp,by simp,by simp,by simp,by simp,by simp,by simp,by simp⟩
   ·have h4':=Int.not_le.1 h4
    have h3':=Int.not_lt.2 h3
    simp [jL.c,mH,mL,aN,jW,kE,ht,hx,f0,f1,f2,f3,f4,f5,f6,f7,e1,h1,h1',h2,h3,h3',h4,h4',eP,cE,cD]
  ·have h3':=Int.not_le.1 h3
   simp [jL.c,mH,mL,aN,jW,kE,ht,hx,f0,f1,f2,f3,f4,f5,f6,f7,e1,h1,h1',h2,h3,h3',eP,cE,cD]
 ·simp [jL.c,mH,mL,aN,jW,kE,ht,hx,f0,f1,f2,f3,f4,f5,f6,f7,e1,h1,h1',h2,cE,cD]
end Go.Proofs.YtfcbohachbeamaaGreatDoor.E
end
section
namespace Go.Proofs.YtfcbohachbeamaaGreatDoor.E
open Go.VC Go.RowKit
theorem aQO {p:Nat->Prop} [DecidablePred p] {n:Nat} (h:Tb.fst p n<n):p (Tb.fst p n):=by
 have key : ∀ m,(∃ i,i<m/\p i) -> ∃ k,k<m/\(∀ j,j<k -> ¬ p j)/\p k:=by
  intro m
  induction m with
  | zero=>rintro ⟨i,h,_⟩;omega
  | succ m ih=>
   rintro ⟨i,h,hi⟩
   by_cases hex : ∃ i,i<m/\p i
   ·obtain ⟨k,h1,h2,h3⟩:=ih hex
    exact ⟨k,by omega,h2,h3⟩
   ·refine ⟨m,by omega,fun j hj hin=>hex ⟨j,hj,hin⟩,?_⟩
    have:i=m:=by
     by_cases he:i=m
     ·exact he
     ·exact absurd ⟨i,by omega,hi⟩ hex
    rw [← this];exact hi
 by_cases hex : ∃ i,i<n/\p i
 ·obtain ⟨k,h1,h2,h3⟩:=key n hex
  rw [Tb.Im h1 h2 h3];exact h3
 ·have:=Tb.Lz (p:=p) (n:=n) (fun i hi hp=>hex ⟨i,hi,hp⟩)
  omega
theorem aAI {es:List En} (hk:Tb.Tk es) (n:Int) : -0xc097ce7bc90715b34b9f1000000000<=mL es n/\mL es n<=0xc097ce7bc90715b34b9f1000000000:=by
 unfold mL
 split
 ·rename_i h
  have h0 : -1099511577776<=n/0xde0b6b3a7640000/86400/\n/0xde0b6b3a7640000/86400<=1099511577776:=by
   unfold mH at h
   split at h
   ·cases h
   ·split at h
    ·rename_i h1;exact h1.2
    ·cases h
  by_cases h1:sJ es n<es.length
  ·obtain ⟨i1,i2,i3,i4⟩:Tb.uG es n (sJ es n):=aQO h1
   obtain ⟨⟨p1,p2,p3,p4⟩,r1,r2,r3,r4,r5,r6⟩:=Mf hk i1 i2
   have hF:Tb.wF es (sJ es n)=(win es (sJ es n)).c:=rfl
   have hA:Tb.A=0xde0b6b3a7640000:=rfl
   have hh:=U5 (a:=0) (x:=n) (c:=(win es (sJ es n)).c) (s:=(win es (sJ es n)).s) (by omega) p4
   rw [Q2 rfl h1]
   split<;>omega
  ·have ho:=Lg hk (n/0xde0b6b3a7640000/86400+40587)
   rw [aAy h1]
   omega
 ·decide
theorem aAV {es:List En} (hk:Tb.Tk es) (x:Int) : -0xc097ce7bc90715b34b9f1000000000<=pF es x/\pF es x<=0xc097ce7bc90715b34b9f1000000000:=by
 unfold pF
 split
 ·rename_i h
  have h0:Tb.S es 0*0xde0b6b3a7640000<=x/\bS (x/0xde0b6b3a7640000/86400):=by
   unfold jK at h
   split at h
   ·cases h
   ·split at h
    ·rename_i h1 h2;exact ⟨by omega,h2⟩
    ·cases h
  have h2:=h0.2
  unfold bS at h2
  by_cases h1:eM es x<es.length
  ·obtain ⟨⟨p1,p2,p3,p4⟩,r1,r2,r3⟩:=X5 hk h1
   have hh:=R8 r1 ⟨r2,r3⟩ p4
   rw [P7 h1]
   omega
  ·have ho:=Sn hk (x/0xde0b6b3a7640000)
   rw [o6 hk h1 h0.1]
   have:aE es (x/0xde0b6b3a7640000)=0:=aF5 hk (by omega)
   omega
 ·decide
theorem aQb (es:List En) (n:Int):0<=mH es n/\mH es n<=12:=by
 unfold mH
 split
 ·simp
 ·split<;>simp
theorem L3 (es:List En) (n:Int):0<=jK es n/\jK es n<=12:=by
 unfold jK
 split
 ·simp
 ·split<;>simp
theorem Hn {es:List En} (hk:Tb.Tk es) (o:Option (List Pc)) (x:Int) (lax:Bool) (l:Int×Int×Int):(-0x80000000000000000000000000000000<=(eX es o x lax l).1/\(eX es o x lax l).1<0x80000000000000000000000000000000)/\0<=(eX es o x lax l).2/\(eX es o x lax l).2<=12:=by
 obtain ⟨h1,h2⟩:=W8 hk o l
 unfold eX
 split
 ·split
  ·simp
  ·exact ⟨h1,by simp⟩
 ·exact ⟨by simp,h2⟩
theorem P5 (es:List En) (o:Option (List Pc)) (x:Int) (lax:Bool) (t:Int):lI (kB es o x lax t).1:=by
 have h:=Yb es o t
 have hz:lI (0,0,0):=by decide
 unfold kB
 split
 ·split
  ·exact hz
  ·exact h
 ·exact hz
def Ky:AP->Bool
 | .g [.p 1001 0,.v (.int .i64 p),.v (.bool _)]=>decide (-0x8000000000000000<=p/\p<0x8000000000000000)
 | _=>false
def Uu:AP->Int×Bool
 | .g [.p 1001 0,.v (.int .i64 p),.v (.bool b)]=>(p,b)
 | _=>(0,false)
theorem O0 {p:Int} {b:Bool} : (Ky (.g [.p 1001 0,.v (.int .i64 p),.v (.bool b)])=true)=(-0x8000000000000000<=p/\p<0x8000000000000000):=by simp only [Ky,decide_eq_true_eq]
theorem aE6 {p:Int} {b:Bool} : Uu (.g [.p 1001 0,.v (.int .i64 p),.v (.bool b)])=(p,b):=_root_.id rfl
def pT:Co (Int×Bool) where
 e:=fun p=> .g [.p 1001 0,.v (.int .i64 p.1),.v (.bool p.2)]
 p:=fun p=> -0x8000000000000000<=p.1/\p.1<0x8000000000000000
 v a:=Ky a=true
 dv a:=inferInstance
 t:=Uu
 some {a} h:=by
  unfold Ky at h
  split at h
  ·exact ⟨rfl,of_decide_eq_true h⟩
  ·cases h
 enc {x} h:=⟨by rw [O0];exact h,rfl⟩
theorem aFN {p:Int×Bool} : pT.e p = .g [.p 1001 0,.v (.int .i64 p.1),.v (.bool p.2)]:=_root_.id rfl
theorem aDc {a:AP} : pT.v a=(Ky a=true):=_root_.id rfl
theorem aMP {a:AP} : pT.t a=Uu a:=_root_.id rfl
theorem aKB {p:Int×Bool} : pT.p p=(-0x8000000000000000<=p.1/\p.1<0x8000000000000000):=_root_.id rfl
attribute [simp] O0 aE6 aFN aDc aMP aKB
abbrev Mo:=Int×Int×(Int×Int×Int)
abbrev Gn (m:Mo):AP:= .g [.v (.int .i64 m.1),.v (.int .i64 (aQ m.2.1)),.v (.int .u64 (aT m.2.1)),.v (.int .i64 m.2.2.1),.v (.int .i64 m.2.2.2.1),.v (.int .i64 m.2.2.2.2)]
def Lx:AP->Bool
 | .g [a,b,c,d,e,f]=>vI (.c a)&&vW (.g [b,c])&&sB (.g [d,e,f])
 | _=>false
def Ul:AP->Mo
 | .g [a,b,c,d,e,f]=>(tI (.c a),tW (.g [b,c]),xQ (.g [d,e,f]))
 | _=>(0,0,0,0,0)
theorem Su {a b c d e f:AC} : (Lx (.g [a,b,c,d,e,f])=true)=(vI (.c a)=true/\vW (.g [b,c])=true/\sB (.g [d,e,f])=true):=by
 apply propext
 simp only [Lx,Bool.and_eq_true,and_assoc]
theorem Uz {a b c d e f:AC} : Ul (.g [a,b,c,d,e,f])=(tI (.c a),tW (.g [b,c]),xQ (.g [d,e,f])):=_root_.id rfl
def nU:Co Mo where
 e:=Gn
 p:=fun m=>(-0x8000000000000000<=m.1/\m.1<0x8000000000000000)/\(-0x80000000000000000000000000000000<=m.2.1/\m.2.1<0x80000000000000000000000000000000)/\lI m.2.2
 v a:=Lx a=true
 dv a:=inferInstance
 t:=Ul
 some {a} h:=by
  match a,h with
  | .g [a,b,c,d,e,f],h=>
   rw [Su] at h
   obtain ⟨h1,h2,h3⟩:=h
   obtain ⟨e1,p1⟩:=bF.some h1
   obtain ⟨e2,p2⟩:=bN.some h2
   obtain ⟨e3,p3⟩:=dV.some h3
   refine ⟨?_,p1,p2,p3⟩
   simp only [Xh,Tl,Le,Tn,AP.c.injEq,AP.g.injEq,List.cons.injEq,and_true] at e1 e2 e3
   obtain ⟨e2,e2'⟩:=e2
   obtain ⟨e3,e3',e3''⟩:=e3
   rw [Uz]
   simp only [Gn,AP.g.injEq,List.cons.injEq,and_true]
   exact ⟨e1,e2,e2',e3,e3',e3''⟩
 enc {x} h:=⟨by
  rw [Su]
  exact ⟨(bF.enc h.1).1,(bN.enc h.2.1).1,(dV.enc h.2.2).1⟩,by
  have:=(bN.enc h.2.1).2
  rw [Uz]
  show (x.1,tW _,x.2.2)=x
  rw [show tW (.g [.v (.int .i64 (aQ x.2.1)),.v (.int .u64 (aT x.2.1))])=x.2.1 from this]⟩
theorem aC5 {m:Mo} : nU.e m=Gn m:=_root_.id rfl
theorem aDI {a:AP} : nU.v a=(Lx a=true):=_root_.id rfl
theorem aHh {a:AP} : nU.t a=Ul a:=_root_.id rfl
theorem aPY {m:Mo} : nU.p m=((-0x8000000000000000<=m.1/\m.1<0x8000000000000000)/\(-0x80000000000000000000000000000000<=m.2.1/\m.2.1<0x80000000000000000000000000000000)/\lI m.2.2):=_root_.id rfl
attribute [simp] Su Uz aC5 aDI aHh aPY
end Go.Proofs.YtfcbohachbeamaaGreatDoor.E
end
section
namespace Go.Proofs.YtfcbohachbeamaaGreatDoor.E
open Go.VC Go.RowKit
def iU (es:List En) (o:Option (List Pc)) (x:Int) (w:Int×Bool) (n:Int):Int×Int:=if (xF es o n w.1).2=0 then eX es o x w.2 (xF es o n w.1).1 else (0,(xF es o n w.1).2)
theorem aK8 (es:List En) (hk:Tb.Tk es) (o:Option (List Pc)) (n p:Int):lI (xF es o n p).1:=by
 obtain ⟨⟨h1,h2⟩,-⟩:=n7 es hk o n
 have hz:lI (0,0,0):=by decide
 unfold xF
 split
 ·split
  ·exact h2
  ·split
   ·exact h1
   ·exact hz
 ·exact hz
noncomputable abbrev tWU:=s4 pT bN dF hJ rD fun w n t c=> .io [1000,1001] [.g (aW t),.g (aK c)] [wd (iU t.es c.2 c.1 w n).1,iv .i64 (iU t.es c.2 c.1 w n).2]
theorem Xz:Ok Tryz.prog 95 tWU:=tP (aG Tryz.func95 zO.ent zO.aA (aB aF2 (aB Of aH))) [1000,1001] [(1000,1000),(1001,1001)] 2 rfl rfl rfl rfl rfl (by simp [zO.c]) fun w n t c hw hn ht hc _=>by
 obtain ⟨x,o⟩:=c
 obtain ⟨p,b⟩:=w
 replace ht:cC t:=ht
 replace hc:iZ (x,o):=hc
 have v1:=kC hc
 have v2:=jX hc
 simp at hn hw
 have hr:=aK8 t.es (iE ht) o n p
 refine ⟨⟨_,_,rfl⟩,0,?_⟩
 by_cases h1:(xF t.es o n p).2=0
 ·cases o<;>simp only [aF] at v1 v2<;>simp [zO.c,bK,aK,aF,aN,ht,hn,hw,v1,v2,iU,h1,hr]
 ·cases o<;>simp only [aF] at v1 v2<;>simp [zO.c,bK,aK,aF,aN,ht,hn,hw,v1,v2,iU,h1,hr,cE,cD]
def iN (es:List En) (o:Option (List Pc)) (x:Int) (w:Int×Bool) (n:Int):Int×Int:=if -0x80000000000000000000000000000000<=n-0x7233b92cc3d1a9eea000000/\n-0x7233b92cc3d1a9eea000000<0x80000000000000000000000000000000 then iU es o x w (n-0x7233b92cc3d1a9eea000000) else (0,2)
noncomputable abbrev tWN:=s4 pT bN dF hJ rD fun w n t c=> .io [1000,1001] [.g (aW t),.g (aK c)] [wd (iN t.es c.2 c.1 w n).1,iv .i64 (iN t.es c.2 c.1 w n).2]
theorem aRn:Ok Tryz.prog 96 tWN:=tP (aG Tryz.func96 Ag.ent Ag.aA (aB aMI (aB Xz aH))) [1000,1001] [(1000,1000),(1001,1001)] 2 rfl rfl rfl rfl rfl (by simp [Ag.c]) fun w n t c hw hn ht hc _=>by
 obtain ⟨x,o⟩:=c
 obtain ⟨p,b⟩:=w
 replace ht:cC t:=ht
 replace hc:iZ (x,o):=hc
 have v1:=kC hc
 have v2:=jX hc
 simp at hn hw
 refine ⟨⟨_,_,rfl⟩,0,?_⟩
 by_cases h1 : -0x80000000000000000000000000000000<=n-0x7233b92cc3d1a9eea000000/\n-0x7233b92cc3d1a9eea000000<0x80000000000000000000000000000000
 ·cases o<;>simp only [aF] at v1 v2<;>simp [Ag.c,bK,aK,aF,aN,ht,hn,hw,v1,v2,iN,h1]
 ·cases o<;>simp only [aF] at v1 v2<;>simp [Ag.c,bK,aK,aF,aN,ht,hn,hw,v1,v2,iN,h1,cE,cD]
def iS (es:List En) (o:Option (List Pc)) (x:Int) (w:Int×Bool) (n:Int):Int×Int:=if mH es n=0 then (if (kB es o x w.2 (mL es n)).2=0 then (mL es n,0) else (0,(kB es o x w.2 (mL es n)).2)) else (0,mH es n)
noncomputable abbrev tWS:=s4 pT bN dF hJ rD fun w n t c=> .io [1000,1001] [.g (aW t),.g (aK c)] [wd (iS t.es c.2 c.1 w n).1,iv .i64 (iS t.es c.2 c.1 w n).2]
theorem aM6:Ok Tryz.prog 97 tWS:=tP (aG Tryz.func97 yB.ent yB.aA (aB Mv (aB aJL (aB Q8 aH)))) [1000,1001] [(1000,1000),(1001,1001)] 2 rfl rfl rfl rfl rfl (by simp [yB.c]) fun w n t c hw hn ht hc _=>by
 obtain ⟨x,o⟩:=c
 obtain ⟨p,b⟩:=w
 replace ht:cC t:=ht
 replace hc:iZ (x,o):=hc
 have v1:=kC hc
 have v2:=jX hc
 simp at hn hw
 have hr:=aAI (iE ht) n
 have hr' : -0x80000000000000000000000000000000<=mL t.es n/\mL t.es n<0x80000000000000000000000000000000:=by omega
 refine ⟨⟨_,_,rfl⟩,0,?_⟩
 by_cases h1:mH t.es n=0
 ·by_cases h2:(kB t.es o x b (mL t.es n)).2=0
  ·cases o<;>simp only [aF] at v1 v2<;>simp [yB.c,bK,aK,aF,aN,ht,hn,hw,v1,v2,iS,h1,h2,hr']
  ·cases o<;>simp only [aF] at v1 v2<;>simp [yB.c,bK,aK,aF,aN,ht,hn,hw,v1,v2,iS,h1,h2,hr',cE,cD]
 ·cases o<;>simp only [aF] at v1 v2<;>simp [yB.c,bK,aK,aF,aN,ht,hn,hw,v1,v2,iS,h1,hr',cE,cD]
def iA (es:List En) (o:Option (List Pc)) (x:Int) (w:Int×Bool) (m:Mo):Int×Int:=
 if iH m.1 then (if bS ((m.2.1+zz m.1)/0xde0b6b3a7640000/86400) then (m.2.1+zz m.1,0) else (0,2))
 else if m.1=5 then eX es o x w.2 m.2.2 else if m.1=6 then iU es o x w m.2.1 else if m.1=7 then iN es o x w m.2.1 else if m.1=8 then iS es o x w m.2.1 else (0,1)
noncomputable abbrev tWI:=s4 pT nU dF hJ rD fun w m t c=> .io [1000,1001] [.g (aW t),.g (aK c)] [wd (iA t.es c.2 c.1 w m).1,iv .i64 (iA t.es c.2 c.1 w m).2]
theorem Sw:Ok Tryz.prog 61 tWI:=tP (aG Tryz.func61 oO.ent oO.aA (aB aCp (aB Of (aB Xz (aB aRn (aB aM6 aH)))))) [1000,1001] [(1000,1000),(1001,1001)] 2 rfl rfl rfl rfl rfl (by simp [oO.c]) fun w m t c hw hm ht hc _=>by
 obtain ⟨x,o⟩:=c
 obtain ⟨p,b⟩:=w
 obtain ⟨k,n,d,s,a⟩:=m
 replace ht:cC t:=ht
 replace hc:iZ (x,o):=hc
 have v1:=kC hc
 have v2:=jX hc
 simp at hm hw
 obtain ⟨h1,h2,h3⟩:=hm
 refine ⟨⟨_,_,rfl⟩,0,?_⟩
 by_cases hz:iH k
 ·by_cases hd:bS ((n+zz k)/0xde0b6b3a7640000/86400)
  ·rcases Hd hz with rfl | rfl | rfl | rfl<;>cases o<;>simp only [aF] at v1 v2<;>simp [oO.c,bK,aK,aF,aN,ht,hw,h1,h2,h3,v1,v2,iA,hz,hd]
  ·rcases Hd hz with rfl | rfl | rfl | rfl<;>cases o<;>simp only [aF] at v1 v2<;>simp [oO.c,bK,aK,aF,aN,ht,hw,h1,h2,h3,v1,v2,iA,hz,hd,cE,cD]
 ·have k1 : ¬ k=1:=fun e=>hz (by subst e;decide)
  have k2 : ¬ k=2:=fun e=>hz (by subst e;decide)
  have k3 : ¬ k=3:=fun e=>hz (by subst e;decide)
  have k4 : ¬ k=4:=fun e=>hz (by subst e;decide)
  by_cases k5:k=5
  ·subst k5
   cases o<;>simp only [aF] at v1 v2<;>simp [oO.c,bK,aK,aF,aN,ht,hw,h1,h2,h3,v1,v2,iA,hz]
  ·by_cases k6:k=6
   ·subst k6
    cases o<;>simp only [aF] at v1 v2<;>simp [oO.c,bK,aK,aF,aN,ht,hw,h1,h2,h3,v1,v2,iA,hz]
   ·by_cases k7:k=7
    ·subst k7
     cases o<;>simp only [aF] at v1 v2<;>simp [oO.c,bK,aK,aF,aN,ht,hw,h1,h2,h3,v1,v2,iA,hz]
    ·by_cases k8:k=8
     ·subst k8
      cases o<;>simp only [aF] at v1 v2<;>simp [oO.c,bK,aK,aF,aN,ht,hw,h1,h2,h3,v1,v2,iA,hz]
     ·cases o<;>simp only [aF] at v1 v2<;>simp [oO.c,bK,aK,aF,aN,ht,hw,h1,h2,h3,v1,v2,iA,hz,k1,k2,k3,k4,k5,k6,k7,k8,cE,cD]
theorem b8 {es:List En} (hk:Tb.Tk es) (o:Option (List Pc)) (x:Int) (w:Int×Bool) (n:Int) : -0x80000000000000000000000000000000<=(iU es o x w n).1/\(iU es o x w n).1<0x80000000000000000000000000000000:=by
 unfold iU
 split
 ·exact (Hn hk o x w.2 _).1
 ·exact ⟨by simp,by simp⟩
theorem Wz {es:List En} (hk:Tb.Tk es) (o:Option (List Pc)) (x:Int) (w:Int×Bool) (m:Mo) : -0x80000000000000000000000000000000<=(iA es o x w m).1/\(iA es o x w m).1<0x80000000000000000000000000000000:=by
 have h0 : -0x80000000000000000000000000000000<=(0:Int)/\(0:Int)<0x80000000000000000000000000000000:=by decide
 unfold iA
 split
 ·split
  ·rename_i h
   have:=Gl h
   dsimp only;omega
  ·exact h0
 ·split
  ·exact (Hn hk o x w.2 _).1
  ·split
   ·exact b8 hk o x w _
   ·split
    ·unfold iN
     split
     ·exact b8 hk o x w _
     ·exact h0
    ·split
     ·unfold iS
      split
      ·split
       ·have:=aAI hk m.2.1
        dsimp only;omega
       ·exact h0
      ·exact h0
     ·exact h0
abbrev aQ6:=s3 bF bN bF lB fun on n e=>if e=0 then .t [Gn (on,n,0,0,0),iv .i64 0] else .t [.g [.v (.int .i64 0),.v (.int .i64 0),.v (.int .u64 0),.v (.int .i64 0),.v (.int .i64 0),.v (.int .i64 0)],iv .i64 e]
theorem B5:Ok Tryz.prog 99 aQ6:=yK (aG Tryz.func99 Ar.ent Ar.aA aH) (by simp [Ar.c]) fun on n e ho hn he _=>by
 simp at ho hn he
 refine ⟨0,?_⟩
 by_cases h:e=0
 ·simp [Ar.c,ho,hn,h]
 ·simp [Ar.c,ho,hn,he,h]
def rZ (on:Int) (l:Int×Int×Int):Mo×Int:=if on=5 then ((5,0,l),0) else if xE l=0 then ((on,(if on=7 then xN l+0x7233b92cc3d1a9eea000000 else xN l),0,0,0),0) else ((0,0,0,0,0),xE l)
theorem N0 {l:Int×Int×Int} (h:xE l=0) : -0xc097ce7bc90715b34b9f1000000000<=xN l/\xN l<=0xc097ce7bc90715b34b9f1000000000:=by
 obtain ⟨d,s,a⟩:=l
 unfold xE at h
 split at h
 ·split at h
  ·rename_i h1 h2
   simp only [iJ,bS] at h1 h2
   unfold xN
   dsimp only
   omega
  ·cases h
 ·cases h
theorem aAF (l:Int×Int×Int):0<=xE l/\xE l<=2:=by
 unfold xE
 split
 ·split<;>simp
 ·simp
abbrev aMn:=s2 bF dV eO fun on l=> .t [Gn (rZ on l).1,iv .i64 (rZ on l).2]
theorem aEi:Ok Tryz.prog 101 aMn:=eT (aG Tryz.func101 sU.ent sU.aA (aB aEG (aB aJD (aB B5 aH)))) (by simp [sU.c]) fun on l ho hl _=>by
 obtain ⟨d,s,a⟩:=l
 simp at ho hl
 have hx:=aAF (d,s,a)
 have hx' : -0x8000000000000000<=xE (d,s,a)/\xE (d,s,a)<0x8000000000000000:=by omega
 refine ⟨0,?_⟩
 by_cases h5:on=5
 ·subst h5
  simp [sU.c,hl,rZ,cE,cD]
 ·by_cases h:xE (d,s,a)=0
  ·have hr:=N0 h
   have f1 : -0x80000000000000000000000000000000<=xN (d,s,a)/\xN (d,s,a)<0x80000000000000000000000000000000:=by omega
   have f2 : -0x80000000000000000000000000000000<=xN (d,s,a)+0x7233b92cc3d1a9eea000000/\xN (d,s,a)+0x7233b92cc3d1a9eea000000<0x80000000000000000000000000000000:=by omega
   by_cases h7:on=7
   ·subst h7
    simp [sU.c,hl,rZ,h,f1,f2]
   ·simp [sU.c,ho,hl,rZ,h5,h7,h,f1,f2]
  ·simp [sU.c,ho,hl,rZ,h5,h,hx',cE,cD]
def an (es:List En) (o:Option (List Pc)) (x:Int) (w:Int×Bool) (t on:Int):Mo×Int:=
 if iH on then (if bS (t/0xde0b6b3a7640000/86400) then ((on,t-zz on,0,0,0),0) else ((0,0,0,0,0),2))
 else if on=5∨on=6∨on=7∨on=8 then
  (if (kB es o x w.2 t).2=0 then (if on=8 then (if jK es t=0 then ((8,pF es t,0,0,0),0) else ((0,0,0,0,0),jK es t)) else rZ on (kB es o x w.2 t).1) else ((0,0,0,0,0),(kB es o x w.2 t).2))
 else ((0,0,0,0,0),1)
noncomputable abbrev tWA:=s5 pT bN bF dF hJ Cp fun w y on t c=> .io [1000,1001] [.g (aW t),.g (aK c)] [Gn (an t.es c.2 c.1 w y on).1,iv .i64 (an t.es c.2 c.1 w y on).2]
theorem V0:Ok Tryz.prog 63 tWA:=xU (aG Tryz.func63 lR.ent lR.aA (aB aM0 (aB B5 (aB Q8 (aB aEi (aB Mv (aB aJN aH))))))) [1000,1001] [(1000,1000),(1001,1001)] 3 rfl rfl rfl rfl rfl (by simp [lR.c]) fun w y on t c hw hy ho ht hc _=>by
 obtain ⟨x,o⟩:=c
 obtain ⟨p,b⟩:=w
 replace ht:cC t:=ht
 replace hc:iZ (x,o):=hc
 have v1:=kC hc
 have v2:=jX hc
 simp at hw hy ho
 have hk:=iE ht
 have hl:=P5 t.es o x b y
 obtain ⟨hl1,hl2,hl3⟩:=hl
 refine ⟨⟨_,_,rfl⟩,0,?_⟩
 by_cases hz:iH on
 ·obtain ⟨-,-,hz1,hz2⟩:=Jb hz
  by_cases hd:bS (y/0xde0b6b3a7640000/86400)
  ·have hr:=Gl hd
   have f1 : -0x80000000000000000000000000000000<=y-zz on/\y-zz on<0x80000000000000000000000000000000:=by omega
   rcases Hd hz with rfl | rfl | rfl | rfl<;>cases o<;>simp only [aF] at v1 v2<;>simp [lR.c,bK,aK,aF,aN,ht,hw,hy,v1,v2,an,hz,hd,f1]
  ·rcases Hd hz with rfl | rfl | rfl | rfl<;>cases o<;>simp only [aF] at v1 v2<;>simp [lR.c,bK,aK,aF,aN,ht,hw,hy,v1,v2,an,hz,hd,cE,cD]
 ·have k1 : ¬ on=1:=fun e=>hz (by subst e;decide)
  have k2 : ¬ on=2:=fun e=>hz (by subst e;decide)
  have k3 : ¬ on=3:=fun e=>hz (by subst e;decide)
  have k4 : ¬ on=4:=fun e=>hz (by subst e;decide)
  by_cases h1:(kB t.es o x b y).2=0
  ·by_cases k8:on=8
   ·subst k8
    have hs:=aAV hk y
    have f1 : -0x80000000000000000000000000000000<=pF t.es y/\pF t.es y<0x80000000000000000000000000000000:=by omega
    have hs2:=L3 t.es y
    have f2 : -0x8000000000000000<=jK t.es y/\jK t.es y<0x8000000000000000:=by omega
    by_cases h2:jK t.es y=0
    ·cases o<;>simp only [aF] at v1 v2<;>simp [lR.c,bK,aK,aF,aN,ht,hw,hy,v1,v2,an,hz,h1,h2,f1]
    ·cases o<;>simp only [aF] at v1 v2<;>simp [lR.c,bK,aK,aF,aN,ht,hw,hy,v1,v2,an,hz,h1,h2,f1,f2,cE,cD]
   ·by_cases k5:on=5
    ·subst k5
     cases o<;>simp only [aF] at v1 v2<;>simp [lR.c,bK,aK,aF,aN,ht,hw,hy,v1,v2,an,hz,h1,hl1,hl2,hl3]
    ·by_cases k6:on=6
     ·subst k6
      cases o<;>simp only [aF] at v1 v2<;>simp [lR.c,bK,aK,aF,aN,ht,hw,hy,v1,v2,an,hz,h1,hl1,hl2,hl3]
     ·by_cases k7:on=7
      ·subst k7
       cases o<;>simp only [aF] at v1 v2<;>simp [lR.c,bK,aK,aF,aN,ht,hw,hy,v1,v2,an,hz,h1,hl1,hl2,hl3]
      ·cases o<;>simp only [aF] at v1 v2<;>simp [lR.c,bK,aK,aF,aN,ht,hw,hy,v1,v2,an,hz,k1,k2,k3,k4,k5,k6,k7,k8,cE,cD]
  ·by_cases kk:on=5∨on=6∨on=7∨on=8
   ·rcases kk with rfl | rfl | rfl | rfl<;>cases o<;>simp only [aF] at v1 v2<;>simp [lR.c,bK,aK,aF,aN,ht,hw,hy,v1,v2,an,hz,h1,cE,cD]
   ·have k5 : ¬ on=5:=fun e=>kk (.inl e)
    have k6 : ¬ on=6:=fun e=>kk (.inr (.inl e))
    have k7 : ¬ on=7:=fun e=>kk (.inr (.inr (.inl e)))
    have k8 : ¬ on=8:=fun e=>kk (.inr (.inr (.inr e)))
    cases o<;>simp only [aF] at v1 v2<;>simp [lR.c,bK,aK,aF,aN,ht,hw,hy,v1,v2,an,hz,k1,k2,k3,k4,k5,k6,k7,k8,cE,cD]
end Go.Proofs.YtfcbohachbeamaaGreatDoor.E
end
