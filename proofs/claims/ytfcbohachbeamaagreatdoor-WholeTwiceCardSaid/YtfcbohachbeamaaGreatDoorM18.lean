/- What the laws' code answers: part 18 of what the rows of this seat lean on. -/
import Derived.Test.YtfcbohachbeamaaGreatDoorM17
import Derived.Test.YtfcbohachbeamaaGreatDoorRows
import Derived.WalkKit
import Derived.ProofKit
import Derived.OpenShut
import Derived.ShutString
import Derived.ChangeOld
import Derived.Below
import Derived.SizedLaws
import Derived.Carry
import Derived.LaidMore
import Derived.Lib.SmallJoins
set_option linter.unusedVariables false
set_option linter.unusedSimpArgs false
set_option maxHeartbeats 8000000
set_option maxRecDepth 100000
section
namespace Go.Proofs.YtfcbohachbeamaaGreatDoor.E
open Go.VC Go.RowKit
abbrev aL6:=s1 bV dX fun t=> .o (bv (decide (dG t)))
theorem aEN:Ok Tryz.prog 9 aL6:=cA (aG Tryz.func9 Ef.ent Ef.aA (aB aOz aH)) (by simp [Ef.c]) fun t ht _=>by
 obtain ⟨p1,p2,p3⟩:=ht
 refine ⟨0,?_⟩
 simp [Ef.c,p1,p2,p3]
 exact ⟨p1,p2⟩
noncomputable abbrev aGI:=s4 bV (fR (.c .u)) (fR (.c .u)) (fR (.c .u)) (fun t _ _ _=>dG t) fun t _ _ _=> .io [1000,1001,1003] (sZ t) [.c (.p 1003 0)]
theorem M0:Ok Tryz.prog 11 aGI:=tP (aG Tryz.func11 yY.ent yY.aA (aB aQj (aB aLL (aB aB9 aH)))) [1000,1001,1003] [(900,1000),(901,1001),(903,1003)] 1 rfl rfl rfl rfl rfl (by simp [yY.c]) fun t _ _ _ ht _ _ _ hm=>by
 have hp:=ht
 obtain ⟨p1,p2,p3⟩:=ht
 have hi:bD t.u/\bD t.x:=⟨p1,p2⟩
 have hP:=aGf hp hm
 have hT:Gp (.c (.r .u8 (nb (mM t))))=mM t:=Wb
 have hV:Gb (.c (.r .u8 (nb (mM t))))=true:=Qr
 have hnb:(mM t).map (fun c=>(c.toNat:Int))=nb (mM t):=rfl
 obtain ⟨o,ho⟩ : ∃ o,oR t.es=o:=⟨_,rfl⟩
 have hm:dG t:=hm
 refine ⟨⟨_,_,rfl⟩,0,?_⟩
 cases o with
 | none=>
  simp [yY.c,Cs,gG,p1,p2,p3,hm,It,Ip,hT,hV,hP,hnb,aK,ho,aF,sv]
  exact hi
 | some R=>
  simp [yY.c,Cs,gG,p1,p2,p3,hm,It,Ip,hT,hV,hP,hnb,aK,ho,aF,sv]
  exact hi
abbrev aS1:=s2 bN bN eO fun a b=> .o (dO (a-b))
theorem aS3:Ok Tryz.prog 14 aS1:=eT (aG Tryz.func14 aRW.ent aRW.aA aP2) (by simp [aRW.c]) fun a b ha hb _=>by
 simp at ha hb
 have m1:=Va (Rh ha)
 have m2:=Va (Rh hb)
 exact ⟨0,by simp [aRW.c,ha,hb,m1,m2]⟩
abbrev aSa:=s1 Lb (fun e=>0<=e.1) fun e=> .o (iv .i64 (Tb.dE e))
theorem aSM:Ok Tryz.prog 17 aSa:=cA (aG Tryz.func17 Mr.ent Mr.aA aH) (by simp [Mr.c]) fun e he hg=>by
 obtain ⟨x,y⟩:=e
 have hg:0<=x:=hg
 obtain ⟨⟨e1,e2⟩,-⟩:=he
 dsimp only at e1 e2
 have h1:x.tdiv 86400=x/86400:=Int.tdiv_eq_ediv_of_nonneg hg
 have w1:IntKind.i64.wrap (x/86400)=x/86400:=aD (by omega) (by omega)
 have w2:IntKind.i64.wrap (15020+x/86400)=15020+x/86400:=aD (by omega) (by omega)
 exact ⟨0,by simp [Mr.c,h1,w1,w2,Tb.dE]⟩
theorem aSK {t:bC} (h:cC t) {i:Nat} (hi:i<t.es.length):Lb.p (t.es.getD i (0,0))/\0<=(t.es.getD i (0,0)).1:=by
 have hk:=iE h
 have h1:=hk.d i hi
 have h2:=hk.o i hi
 refine ⟨⟨?_,?_⟩,by omega⟩
 ·show -0x8000000000000000<=(t.es.getD i (0,0)).1/\(t.es.getD i (0,0)).1<0x8000000000000000
  omega
 ·show -0x8000000000000000<=(t.es.getD i (0,0)).2/\(t.es.getD i (0,0)).2<0x8000000000000000
  have:(t.es.getD i (0,0)).2=Tb.O t.es i:=rfl
  omega
theorem aS0 {es:List En} (hk:Tb.Tk es) {i:Nat} (hi:i+1<es.length) {d:Int} (h:Tb.D es (i+1)-1=d):Tb.pB es d=Tb.O es (i+1)-Tb.O es i:=by
 have h1:=hk.up i hi
 rw [Tb.aKC hk (k:=i) ⟨by omega,by omega,fun _=>by omega⟩,if_pos ⟨hi,h⟩]
theorem aS2 {es:List En} {d:Int} (h : ∀ i,i+1<es.length->Tb.D es (i+1)-1≠d):Tb.pB es d=0:=by
 unfold Tb.pB
 split
 ·rfl
 ·rename_i hn
  exfalso
  have hle:Tb.rT es d<=es.length:=Tb.Au _ _
  obtain ⟨i,hi⟩ : ∃ i,Tb.rT es d=i+1:=⟨Tb.rT es d-1,by omega⟩
  rw [hi] at hn hle
  exact h i (by omega) (by omega)
abbrev aSU:=s2 bV bF (fun t _=>dG t) fun t d=> .o (iv .i64 (Tb.pB t.es d))
theorem aR5:Ok Tryz.prog 20 aSU:=eT (aG Tryz.func20 Xc.ent Xc.aA (aB aSM aH)) (by simp [Xc.c]) fun t d ht hd hm=>by
 have hT:=Rf ht hm
 have hk:=iE hT
 have n0:=hk.n0
 have n1:=hk.n1
 obtain ⟨p1,p2,p3⟩:=ht
 have hq:=iC t.es
 simp at hd
 refine ⟨t.es.length+1,?_⟩
 simp only [Xc.c,fL,fC,fJ,fG]
 simp
 refine lL (fun m s=> ∃ i:Nat,i+1<=t.es.length/\m=t.es.length-(i+1)/\(∀ j,j<i->Tb.D t.es (j+1)-1≠d)/\s.tm 1 = .o (iv .i64 d)/\s.tm 2 = .o (.c (.p 2 0))/\s.tm 4 = .o (iv .i64 0)/\s.tm 5 = .o (iv .i64 ((i:Int)+1))/\s.mem 2=some [.v (.int .i64 t.u),.v (.int .i64 t.x),.q 2 (qE t.es)]) ?_ (t.es.length+1) (t.es.length-1) _ (by omega) ?_
 ·rintro m s ⟨i,hi,rfl,hno,t1,t2,t4,t5,m2⟩
  by_cases h:i+1<t.es.length
  ·have c1:(i:Int)+1<(t.es.length:Int):=by omega
   have b2:0<=(i:Int)+1:=by omega
   have q1:=Om h
   have q2:=Om (show i<t.es.length by omega)
   have l1:(i+1)*2+2<=t.es.length*2:=by omega
   have l2:i*2+2<=t.es.length*2:=by omega
   obtain ⟨⟨i1,i2⟩,i3⟩:=aSK hT h
   have e1:Tb.D t.es (i+1)=Tb.dE (t.es.getD (i+1) (0,0)):=rfl
   have e2:Tb.O t.es (i+1)=(t.es.getD (i+1) (0,0)).2:=rfl
   have a1:=hk.d _ h
   have a2:=hk.o _ h
   have a3:=hk.o i (by omega)
   have w0:IntKind.i64.wrap ((i:Int)+1+1)=(i:Int)+1+1:=aD (by omega) (by omega)
   have w1:IntKind.i64.wrap (Tb.dE (t.es.getD (i+1) (0,0))-1)=Tb.dE (t.es.getD (i+1) (0,0))-1:=aD (by omega) (by omega)
   have w2:IntKind.i64.wrap (i:Int)=i:=aD (by omega) (by omega)
   have w3:IntKind.i64.wrap (Tb.O t.es (i+1)-Tb.O t.es i)=Tb.O t.es (i+1)-Tb.O t.es i:=aD (by omega) (by omega)
   rw [e2] at q1 w3
   have hr1:(qE t.es)[i*2+1]? = some (.v (.int .i64 (Tb.O t.es i))):=by
    have:=congrArg (fun l:List QC=>l[1]?) q2
    simpa [List.getElem?_drop] using this
   by_cases h2:Tb.D t.es (i+1)-1=d
   ·have hc:=aS0 hk h h2
    rw [e1] at h2
    rw [e2] at hc
    have i1':bD (t.es.getD (i+1) (0,0)).1:=i1
    have i2':bD (t.es.getD (i+1) (0,0)).2:=i2
    have i4:bD (t.es.getD (i+1) (0,0)).1/\bD (t.es.getD (i+1) (0,0)).2:=⟨i1,i2⟩
    generalize t.es.getD (i+1) (0,0)=E at *
    generalize Tb.O t.es i=O at *
    generalize qE t.es=R at *
    simp [-List.getD_eq_getElem?_getD,Xc.l1,t1,t2,t4,t5,m2,hq,c1,b2,q1,q2,l1,l2,i1',i2',i3,i4,w0,w1,w2,w3,h2,hc,hr1]
    exact ⟨i4,fun h=>absurd (aD hd.1 hd.2) h⟩
   ·have h3:=hno
    have h2':=h2
    rw [e1] at h2
    have i4:bD (t.es.getD (i+1) (0,0)).1/\bD (t.es.getD (i+1) (0,0)).2:=⟨i1,i2⟩
    have hgo : ∀ j,j<i+1->Tb.D t.es (j+1)-1≠d:=fun j hj=>by
     by_cases hji:j=i
     ·subst hji;exact h2'
     ·exact hno j (by omega)
    generalize t.es.getD (i+1) (0,0)=E at *
    generalize qE t.es=R at *
    simp [-List.getD_eq_getElem?_getD,Xc.l1,t1,t2,t4,t5,m2,hq,c1,b2,q1,q2,l1,l2,i3,i4,w0,w1,w2,w3,h2]
    exact ⟨i4,t.es.length-(i+1+1),by omega,i+1,by omega,rfl,hgo,by omega⟩
  ·have e:i+1=t.es.length:=by omega
   have c1 : ¬ (i:Int)+1<(t.es.length:Int):=by omega
   have hc:=aS2 (es:=t.es) (d:=d) (fun j hj=>hno j (by omega))
   simp [Xc.l1,t1,t2,t4,t5,m2,hq,c1,hc]
 ·exact ⟨0,by omega,by omega,fun j hj=>by omega,by simp,by simp,by simp,by simp,by simp⟩
def unI (l:Int×Int×Int):Prop:=(-1099511627776<=l.1/\l.1<=1099511627776)/\(0<=l.2.1/\l.2.1<=86400)/\0<=l.2.2/\l.2.2<0xde0b6b3a7640000
instance (l:Int×Int×Int):Decidable (unI l):=inferInstanceAs (Decidable (_/\_))
abbrev aR3:=s1 dV unI fun l=> .o (dO (xN l))
theorem aSX:Ok Tryz.prog 19 aR3:=cA (aG Tryz.func19 aRS.ent aRS.aA (aB aSS aP2)) (by simp [aRS.c]) fun l hl hg=>by
 obtain ⟨d,s,a⟩:=l
 simp at hl
 simp only [unI] at hg
 have f1:cJ (jn (d,s,a)):=by unfold cJ jn;dsimp only;omega
 have f2:cJ (jn (40587,0,0)):=by decide
 have e:jn (d,s,a)-jn (40587,0,0)=xN (d,s,a):=by unfold jn xN;dsimp only;omega
 exact ⟨0,by simp [aRS.c,hl,f1,f2,e]⟩
noncomputable def aRX:Co Rs:=nA (0,0,0,0,0) Ah (fun r=>(-0x8000000000000000<=r.1/\r.1<0x8000000000000000)/\(-0x80000000000000000000000000000000<=r.2.1/\r.2.1<0x80000000000000000000000000000000)/\lI r.2.2) (fun x y h1 h2 h=>by
 obtain ⟨e,n,d,s,a⟩:=x
 obtain ⟨e',n',d',s',a'⟩:=y
 simp only [Ah,AP.g.injEq,List.cons.injEq,AC.v.injEq,Value.int.injEq,true_and,and_true] at h
 obtain ⟨q1,q2,q3,q4,q5,q6⟩:=h
 have:=pU.1 ⟨q2,q3⟩
 simp only [Prod.mk.injEq]
 exact ⟨q1,this,q4,q5,q6⟩)
theorem aR4 {r:Rs} : aRX.e r=Ah r:=_root_.id rfl
abbrev Fw (r:Rs):Prop:=(-0x8000000000000000<=r.1/\r.1<0x8000000000000000)/\(-0x80000000000000000000000000000000<=r.2.1/\r.2.1<0x80000000000000000000000000000000)/\lI r.2.2
theorem aR0 {r:Rs} (h:Fw r):aRX.v (Ah r)=True:=pR (e:=Ah) h
theorem aRY {r:Rs} (h:Fw r):aRX.t (Ah r)=r:=pY (e:=Ah) h
noncomputable abbrev aSO:=s2 aRX aRX (fun a b=>a=b) fun _ _=> .o (bv true)
theorem aSY:Ok Tryz.prog 21 aSO:=eT (aG Tryz.func21 aRU.ent aRU.aA aH) (by simp [aRU.c]) fun x y hx hy hg=>by
 obtain rfl:x=y:=hg
 obtain ⟨e,n,d,s,a⟩:=x
 refine ⟨0,?_⟩
 simp [aRU.c,aR4]
def nO:bC:=⟨0,3000000000,[(2272060800,10),(2287785600,11)]⟩
theorem aFz:bV.p nO:=by simp [nO,pE,bD]
theorem aD4:dG nO:=by decide +kernel
theorem aEb:sI nO.es (oR nO.es) nO.x ⟨2,5,3,0,(41498,86400,5),0,false,0,0,0,.r .u8 [],0,0,(0,0,0)⟩=(0,-0xc42e4787b42e290883fffb,0,0,0):=by decide +kernel
theorem aHu:sI nO.es (oR nO.es) nO.x ⟨2,3,5,-0xc42e4787b42e290883fffb,(0,0,0),0,false,0,0,0,.r .u8 [],0,0,(0,0,0)⟩=(0,0,41498,86400,5):=by decide +kernel
abbrev aKD:=s0 (.o (bv true))
theorem aMY:Ok Tryz.prog 10 aKD:=Vy (aG Tryz.func10 Fx.ent Fx.aA (aB M0 (aB Y4 aH))) ⟨0,by
 have hp:=aFz
 have hm:=aD4
 have hT:=Rf hp hm
 have hv:Ft (.g [.v (.int .i64 0),.v (.int .i64 3000000000),.q 2 [.v (.int .i64 2272060800),.v (.int .i64 10),.v (.int .i64 2287785600),.v (.int .i64 11)]])=true:=(bV.enc hp).1
 have ht:Hi (.g [.v (.int .i64 0),.v (.int .i64 3000000000),.q 2 [.v (.int .i64 2272060800),.v (.int .i64 10),.v (.int .i64 2287785600),.v (.int .i64 11)]])=nO:=(bV.enc hp).2
 have hc:=U0 hp
 have v1:=kC hc
 have v2:=jX hc
 have a1:=aEb
 have a2:=aHu
 have hr:fS ⟨51,2,none⟩ 2 [.v (.int .i64 2272060800),.v (.int .i64 10),.v (.int .i64 2287785600),.v (.int .i64 11)] = .q 2 [.v (.int .i64 2272060800),.v (.int .i64 10),.v (.int .i64 2287785600),.v (.int .i64 11)]:=by kernel_rfl
 have hO:oR nO.es=some qU:=by unfold oR;rw [if_pos (by decide +kernel)]
 have hX:nO.x=3000000000:=rfl
 rw [hO,hX] at v1 v2 a1 a2
 generalize nO=t at *
 generalize qU=R at *
 simp only [aF] at v1 v2
 simp [-N9,-C5,Fx.c,hr,hv,ht,hm,gG,aK,hO,aF,aN,hT,v1,v2,a1,a2,hX]⟩
end Go.Proofs.YtfcbohachbeamaaGreatDoor.E
end
section
namespace Go.Proofs.YtfcbohachbeamaaGreatDoor.E
open Go.VC Go.RowKit
section
variable {es:List En} {o:Option (List Pc)} {X:Int}
theorem aIL {l:Int×Int×Int} : eX es o X true l=if (cT es o l).2=0 then ((cT es o l).1,0) else (0,(cT es o l).2):=by
 unfold eX
 simp
end
end Go.Proofs.YtfcbohachbeamaaGreatDoor.E
end
section
namespace Go.Proofs.YtfcbohachbeamaaGreatDoor.E
open Go.VC Go.RowKit
section
variable {es:List En} {o:Option (List Pc)} {X:Int}
theorem yz1:iH 1:=by decide
theorem nz6 : ¬ iH 6:=by decide
theorem aSV {w:Int×Bool} {n:Int} {l:Int×Int×Int} : iA es o X w (6,n,l)=iU es o X w n:=by
 unfold iA
 dsimp only
 rw [if_neg nz6]
 simp
theorem aSQ {p t:Int} : an es o X (p,true) t 1=if bS (t/0xde0b6b3a7640000/86400) then ((1,t-zz 1,0,0,0),0) else ((0,0,0,0,0),2):=by
 unfold an
 rw [if_pos yz1]
theorem aSZ {d s a:Int} (h1:0<=s/\s<86400) (h2:0<=a/\a<0xde0b6b3a7640000):eP (xN (d,s,a)+0xb54b02aa47f853cb2000000)=(d,s,a):=by
 unfold eP xN
 dsimp only
 simp only [Prod.mk.injEq]
 omega
def uxT (es:List En) (o:Option (List Pc)) (x:(Int×Int×Int)×Int):Rs:=
 if x.2=0 then (if (cT es o x.1).2=0 then (if bS ((cT es o x.1).1/0xde0b6b3a7640000/86400) then (0,(cT es o x.1).1-zz 1,0,0,0) else (2,0,0,0,0)) else ((cT es o x.1).2,0,0,0,0)) else (x.2,0,0,0,0)
theorem aRV {p n:Int} {l:Int×Int×Int} : cv es o X (p,true) (6,n,l) 1=uxT es o (xF es o n p):=by
 unfold cv
 rw [aSV]
 unfold iU uxT
 dsimp only
 by_cases h1:(xF es o n p).2=0
 ·simp only [if_pos h1]
  rw [aIL]
  by_cases h2:(cT es o (xF es o n p).1).2=0
  ·simp only [h2,if_true]
   rw [aSQ]
   by_cases h3:bS ((cT es o (xF es o n p).1).1/0xde0b6b3a7640000/86400)<;>simp [h3,sd]
  ·simp [h2]
 ·simp [h1]
theorem aR1 {l:Int×Int×Int} (h1:iJ l) (h2:bS l.1) (h3:Tb.D es 0<=l.1):uE es l=if l.2.1<86400+Tb.pB es l.1 then 0 else 6:=by
 unfold uE
 rw [if_pos h1,if_pos h2,if_neg (by omega)]
theorem aSR (hk:Tb.Tk es) {d s a:Int} (hd:d<1099511627776) (hd0:Tb.D es 0<d) (hs:0<=s/\s<=86399) (ha:0<=a/\a<0xde0b6b3a7640000) :
 (s=0/\Tb.pB es (d-1)=1->(cv es (oR es) X (0,true) (6,xN (d,s,a),0,0,0) 1).1=7/\(cv es (oR es) X (1,true) (6,xN (d,s,a),0,0,0) 1).1=0/\(cv es (oR es) X (2,true) (6,xN (d,s,a),0,0,0) 1).1=0 /\
  (cv es (oR es) X (2,true) (6,xN (d,s,a),0,0,0) 1).2.1-(cv es (oR es) X (1,true) (6,xN (d,s,a),0,0,0) 1).2.1=0xde0b6b3a7640000) /\
 (¬ (s=0/\Tb.pB es (d-1)=1)->s=86399/\Tb.pB es d = -1 -> ∀ p,(cv es (oR es) X (p,true) (6,xN (d,s,a),0,0,0) 1).1=6) /\
 (¬ (s=0/\Tb.pB es (d-1)=1) -> ¬ (s=86399/\Tb.pB es d = -1)->(cv es (oR es) X (0,true) (6,xN (d,s,a),0,0,0) 1).1=0 /\ ∀ p,cv es (oR es) X (p,true) (6,xN (d,s,a),0,0,0) 1=cv es (oR es) X (0,true) (6,xN (d,s,a),0,0,0) 1):=by
 have hD0:=hk.d 0 hk.n0
 have hsp:=aSZ (d:=d) (s:=s) (a:=a) (by omega) ha
 have hin:bS ((xN (d,s,a)+0xb54b02aa47f853cb2000000)/0xde0b6b3a7640000/86400):=by
  have:=congrArg (fun x:Int×Int×Int=>x.1) hsp
  simp only [eP] at this
  rw [this];unfold bS;omega
 have cr:=aIT hk d
 have cr':=aIT hk (d-1)
 have f1:iJ (d,s,a):=⟨by dsimp only;omega,ha⟩
 have f2:iJ (d-1,86400,a):=⟨by dsimp only;omega,ha⟩
 have i1:bS d:=by unfold bS;omega
 have i2:bS (d-1):=by unfold bS;omega
 have E1:cT es (oR es) (d,s,a)=(uT es (d,s,a),uE es (d,s,a)):=aRQ (by dsimp only;omega)
 have E2:cT es (oR es) (d-1,86400,a)=(uT es (d-1,86400,a),uE es (d-1,86400,a)):=aRQ (by dsimp only;omega)
 have U1:=aR1 (es:=es) f1 i1 (by dsimp only;omega)
 have U2:=aR1 (es:=es) f2 i2 (by dsimp only;omega)
 dsimp only at U1 U2
 have hL:xL es (oR es) (xN (d,s,a))=if s=0/\uE es (d-1,86400,a)=0 then (if uE es (d,s,a)=0 then (((d-1,86400,a),(d,s,a)),2,0) else (((d-1,86400,a),(d-1,86400,a)),1,0)) else (if uE es (d,s,a)=0 then (((d,s,a),(d,s,a)),1,0) else (((0,0,0),(0,0,0)),0,uE es (d,s,a))):=by
  unfold xL
  rw [if_pos hin,hsp]
  dsimp only
  rw [E1,E2]
 have ho1:=Lg hk d
 have ho2:=Lg hk (d-1)
 have hov:=aSP hk (d:=d) (by omega)
 have T1:uE es (d,s,a)=0->uT es (d,s,a)=(d*86400+s+oV es d)*0xde0b6b3a7640000+a:=fun h=>if_pos h
 have T2:uE es (d-1,86400,a)=0->uT es (d-1,86400,a)=((d-1)*86400+86400+oV es (d-1))*0xde0b6b3a7640000+a:=fun h=>if_pos h
 have I1:bS (((d*86400+s+oV es d)*0xde0b6b3a7640000+a)/0xde0b6b3a7640000/86400):=by unfold bS;omega
 have I2:bS ((((d-1)*86400+86400+oV es (d-1))*0xde0b6b3a7640000+a)/0xde0b6b3a7640000/86400):=by unfold bS;omega
 refine ⟨?_,?_,?_⟩
 ·rintro ⟨rfl,hc⟩
  have u1:uE es (d,0,a)=0:=by rw [U1,if_pos (by omega)]
  have u2:uE es (d-1,86400,a)=0:=by rw [U2,if_pos (by omega)]
  rw [if_pos ⟨rfl,u2⟩,if_pos u1] at hL
  rw [aRV,aRV,aRV]
  have x0:xF es (oR es) (xN (d,0,a)) 0=((0,0,0),7):=by unfold xF;rw [hL];rfl
  have x1:xF es (oR es) (xN (d,0,a)) 1=((d-1,86400,a),0):=by unfold xF;rw [hL];rfl
  have x2:xF es (oR es) (xN (d,0,a)) 2=((d,0,a),0):=by unfold xF;rw [hL];rfl
  rw [x0,x1,x2]
  unfold uxT
  dsimp only
  rw [E1,E2]
  dsimp only
  rw [u1,u2,T1 u1,T2 u2,if_pos I1,if_pos I2]
  simp
  omega
 ·rintro hn ⟨rfl,hc⟩ p
  have u1:uE es (d,86399,a)=6:=by rw [U1,if_neg (by omega)]
  rw [if_neg (by omega),u1,if_neg (by decide)] at hL
  rw [aRV]
  have x0:xF es (oR es) (xN (d,86399,a)) p=((0,0,0),6):=by unfold xF;rw [hL];rfl
  rw [x0]
  rfl
 ·intro hn hn2
  have u1:uE es (d,s,a)=0:=by rw [U1,if_pos (by omega)]
  have hn' : ¬ (s=0/\uE es (d-1,86400,a)=0):=by
   rintro ⟨h1,h2⟩
   rw [U2] at h2
   split at h2
   ·exact hn ⟨h1,by omega⟩
   ·cases h2
  rw [if_neg hn',if_pos u1] at hL
  have x0 : ∀ p,xF es (oR es) (xN (d,s,a)) p=((d,s,a),0):=fun p=>by
   unfold xF;rw [hL]
   dsimp only
   rw [if_pos rfl,if_pos (.inl rfl)]
  refine ⟨?_,fun p=> ?_⟩
  ·rw [aRV,x0]
   unfold uxT
   dsimp only
   rw [E1]
   dsimp only
   rw [u1,T1 u1,if_pos rfl,if_pos rfl,if_pos I1]
  ·rw [aRV,aRV,x0,x0]
end
end Go.Proofs.YtfcbohachbeamaaGreatDoor.E
end
section
namespace Go.Proofs.YtfcbohachbeamaaGreatDoor.E
open Go.VC Go.RowKit
theorem C1 {m:Mo×Int} (h:nU.p m.1/\0<=m.2/\m.2<=12):Fw (sd m):=by
 obtain ⟨⟨h1,h2,h3⟩,h4⟩:=h
 unfold sd
 split
 ·exact ⟨by simp,h2,h3⟩
 ·exact ⟨by dsimp only;omega,by simp,by simp⟩
theorem Ge {e:Int} (h:0<=e/\e<=12):Fw (e,0,0,0,0):=⟨by dsimp only;omega,by simp,by simp⟩
theorem aQn (es:List En) (hk:Tb.Tk es) (o:Option (List Pc)) (n p:Int):0<=(xF es o n p).2/\(xF es o n p).2<=12:=by
 obtain ⟨-,-,h⟩:=n7 es hk o n
 unfold xF
 split
 ·split
  ·simp
  ·split<;>simp
 ·exact h
theorem aJr {es:List En} (hk:Tb.Tk es) (o:Option (List Pc)) (x:Int) (w:Int×Bool) (m:Mo):0<=(iA es o x w m).2/\(iA es o x w m).2<=12:=by
 have hU : ∀ n,0<=(iU es o x w n).2/\(iU es o x w n).2<=12:=fun n=>by
  unfold iU
  split
  ·exact (Hn hk o x w.2 _).2
  ·exact aQn es hk o n w.1
 unfold iA
 split
 ·split<;>simp
 ·split
  ·exact (Hn hk o x w.2 _).2
  ·split
   ·exact hU _
   ·split
    ·unfold iN
     split
     ·exact hU _
     ·simp
    ·split
     ·unfold iS
      split
      ·split
       ·simp
       ·exact Yj es o x w.2 _
      ·exact aQb es _
     ·simp
theorem Wg {es:List En} (hk:Tb.Tk es) (o:Option (List Pc)) (x:Int) {r:Rq} (hr:Cv.p r):Fw (sI es o x r):=by
 obtain ⟨p0,p1,p2,p3,p4,p5,p7,p8,p9,pQ,p11,p12,p13⟩:=hr
 have he:=aJr hk o x (r.pick,r.lax) (r.sc,r.n,r.l)
 unfold sI
 split
 ·unfold cv
  split
  ·exact C1 (Qe hk o x _ _ p2)
  ·exact Ge he
 ·split
  ·unfold ad
   split
   ·split
    ·exact C1 (Qe hk o x _ _ p1)
    ·exact Ge (by decide)
   ·exact Ge he
  ·unfold df
   split
   ·split
    ·split
     ·rename_i h
      exact ⟨by simp,h,by simp⟩
     ·exact Ge (by decide)
    ·exact Ge (Hn hk o x _ _).2
   ·exact Ge he
end Go.Proofs.YtfcbohachbeamaaGreatDoor.E
end
section
namespace Go.Proofs.YtfcbohachbeamaaGreatDoor.E
open Go.VC Go.RowKit
open Go.VC Go.RowKit
end Go.Proofs.YtfcbohachbeamaaGreatDoor.E
end
section
namespace Go.Proofs.YtfcbohachbeamaaGreatDoor.E
open Go.VC Go.RowKit
noncomputable abbrev aRZ:=s4 bV bF bF bF rD fun _ _ _ _=> .o (bv true)
theorem aST:Ok Tryz.prog 4 aRZ:=Yo (aG Tryz.func4 Wk.ent Wk.aA (aB aEN (aB aSM (aB aMY (aB M0 (aB aSX (aB Y4 (aB aR5 (aB aS3 (aB aSY aP2)))))))))) (by simp [Wk.c]) fun t d s a ht hd hs ha _=>by
 have hp:=ht
 have hck:=U0 hp
 obtain ⟨q1,q2,q3⟩:=ht
 have hi:bD t.u/\bD t.x:=⟨q1,q2⟩
 simp at hd hs ha
 refine ⟨0,?_⟩
 by_cases hm:dG t
 ·have hT:=Rf hp hm
  have hk:=iE hT
  have n0:=hk.n0
  have qE1:=Om n0
  obtain ⟨⟨e1,e2⟩,e3⟩:=aSK hT n0
  have hl2:2<=t.es.length*2:=by omega
  have e4:Tb.O t.es 0=(t.es.getD 0 (0,0)).2:=rfl
  have e5:Tb.dE (t.es.getD 0 (0,0))=Tb.D t.es 0:=rfl
  rw [e4,Nat.zero_mul,List.drop_zero] at qE1
  have hq:=iC t.es
  have i1:bD (t.es.getD 0 (0,0)).1/\bD (t.es.getD 0 (0,0)).2:=⟨e1,e2⟩
  have hdm:=hk.d 0 n0
  generalize hE:t.es.getD 0 (0,0)=E at *
  obtain ⟨ex,ey⟩:=E
  have i1':bD ex/\bD ey:=i1
  dsimp only at qE1 e3
  have qE2:(qE t.es).take 2 = [.v (.int .i64 ex),.v (.int .i64 ey)]:=by rw [qE1];rfl
  have qE3:List.take 2 (List.map QC.ac (qE t.es)) = [.v (.int .i64 ex),.v (.int .i64 ey)]:=by rw [qE1];rfl
  have qE4:List.take 2 (List.map (AC.wk ∘ QC.ac) (qE t.es)) = [.v (.int .i64 ex),.v (.int .i64 ey)]:=by rw [qE1];rfl
  clear qE1
  by_cases c1:1099511627776<=d
  ·simp [Wk.c,q1,q2,q3,hm,hd,hs,ha,c1]
   all_goals first | exact hi | exact ⟨hi,i1'⟩ | exact ⟨hi,i1',hi,by decide⟩
  have c1':d<1099511627776:=by omega
  by_cases c2:d<=Tb.D t.es 0
  ·simp [-QC.ac,Wk.c,q1,q2,q3,hm,hd,hs,ha,c1,c1',qE2,qE3,qE4,hl2,hq,i1',e3,e5,c2]
   all_goals first | exact hi | exact ⟨hi,i1'⟩ | exact ⟨hi,i1',hi,by decide⟩
  have c2':Tb.D t.es 0<d:=by omega
  by_cases c3:s<0
  ·simp [-QC.ac,Wk.c,q1,q2,q3,hm,hd,hs,ha,c1,c1',qE2,qE3,qE4,hl2,hq,i1',e3,e5,c2,c2',c3]
   all_goals first | exact hi | exact ⟨hi,i1'⟩ | exact ⟨hi,i1',hi,by decide⟩
  have c3':0<=s:=by omega
  by_cases c4:86399<s
  ·simp [-QC.ac,Wk.c,q1,q2,q3,hm,hd,hs,ha,c1,c1',qE2,qE3,qE4,hl2,hq,i1',e3,e5,c2,c2',c3,c3',c4]
   all_goals first | exact hi | exact ⟨hi,i1'⟩ | exact ⟨hi,i1',hi,by decide⟩
  have c4':s<=86399:=by omega
  by_cases c5:a<0
  ·simp [-QC.ac,Wk.c,q1,q2,q3,hm,hd,hs,ha,c1,c1',qE2,qE3,qE4,hl2,hq,i1',e3,e5,c2,c2',c3,c3',c4,c4',c5]
   all_goals first | exact hi | exact ⟨hi,i1'⟩ | exact ⟨hi,i1',hi,by decide⟩
  have c5':0<=a:=by omega
  by_cases c6:0xde0b6b3a7640000<=a
  ·simp [-QC.ac,Wk.c,q1,q2,q3,hm,hd,hs,ha,c1,c1',qE2,qE3,qE4,hl2,hq,i1',e3,e5,c2,c2',c3,c3',c4,c4',c5,c5',c6]
   all_goals first | exact hi | exact ⟨hi,i1'⟩ | exact ⟨hi,i1',hi,by decide⟩
  have c6':a<0xde0b6b3a7640000:=by omega
  obtain ⟨l1,l2,l3⟩:=aSR (X:=t.x) hk (d:=d) (s:=s) (a:=a) c1' c2' ⟨c3',c4'⟩ ⟨c5',c6'⟩
  have g0:unI (d,s,a):=⟨by dsimp only;omega,by dsimp only;omega,by dsimp only;omega⟩
  have g1 : -0x80000000000000000000000000000000<=xN (d,s,a)/\xN (d,s,a)<0x80000000000000000000000000000000:=by unfold xN;dsimp only;omega
  have g2:cJ (xN (d,s,a)):=Va (Rh g1)
  have v1:=kC hck
  have v2:=jX hck
  obtain ⟨ra,hA⟩ : ∃ r,sI t.es (oR t.es) t.x ⟨2,6,1,xN (d,s,a),(0,0,0),0,true,0,0,0,.r .u8 [],0,0,(0,0,0)⟩=r:=⟨_,rfl⟩
  obtain ⟨rb,hB⟩ : ∃ r,sI t.es (oR t.es) t.x ⟨2,6,1,xN (d,s,a),(0,0,0),1,true,0,0,0,.r .u8 [],0,0,(0,0,0)⟩=r:=⟨_,rfl⟩
  obtain ⟨rc,hC⟩ : ∃ r,sI t.es (oR t.es) t.x ⟨2,6,1,xN (d,s,a),(0,0,0),2,true,0,0,0,.r .u8 [],0,0,(0,0,0)⟩=r:=⟨_,rfl⟩
  have gA:Fw ra:=hA ▸ Wg hk _ _ (by simp [g1,AC.known,AP.free])
  have gB:Fw rb:=hB ▸ Wg hk _ _ (by simp [g1,AC.known,AP.free])
  have gC:Fw rc:=hC ▸ Wg hk _ _ (by simp [g1,AC.known,AP.free])
  have eA:cv t.es (oR t.es) t.x (0,true) (6,xN (d,s,a),0,0,0) 1=ra:=by rw [← hA];rfl
  have eB:cv t.es (oR t.es) t.x (1,true) (6,xN (d,s,a),0,0,0) 1=rb:=by rw [← hB];rfl
  have eC:cv t.es (oR t.es) t.x (2,true) (6,xN (d,s,a),0,0,0) 1=rc:=by rw [← hC];rfl
  have l3b:=fun h1 h2=>(l3 h1 h2).2 1
  have l3c:=fun h1 h2=>(l3 h1 h2).2 2
  have l3a:=fun h1 h2=>(l3 h1 h2).1
  have l2a:=fun h1 h2=>l2 h1 h2 0
  have l2b:=fun h1 h2=>l2 h1 h2 1
  have l2c:=fun h1 h2=>l2 h1 h2 2
  clear l2 l3
  rw [eA,eB,eC] at l1
  rw [eA] at l3a l2a
  rw [eB] at l2b
  rw [eC] at l2c
  rw [eA,eB] at l3b
  rw [eA,eC] at l3c
  clear eA eB eC
  have w1:IntKind.i64.wrap (d-1)=d-1:=aD (by omega) (by omega)
  have h9 : -0x8000000000000000<=d-1/\d-1<0x8000000000000000:=by omega
  generalize hO:oR t.es=o at *
  generalize hN:xN (d,s,a)=N at *
  generalize hc0:Tb.pB t.es (d-1)=k0 at *
  generalize hc1:Tb.pB t.es d=k1 at *
  by_cases b1:s=0/\k0=1
  ·obtain ⟨m1,m2,m3,m4⟩:=l1 b1
   obtain ⟨b1,b2⟩:=b1
   subst b1
   obtain ⟨ea,na,la⟩:=ra
   obtain ⟨eb,nb',lb'⟩:=rb
   obtain ⟨ec,nc,lc⟩:=rc
   obtain ⟨ga1,ga2,ga3⟩:=gA
   obtain ⟨gb1,gb2,gb3⟩:=gB
   obtain ⟨gc1,gc2,gc3⟩:=gC
   dsimp only at *
   have h8:cJ (nc-nb'):=by unfold cJ;omega
   cases o<;>simp only [aF] at v1 v2<;>simp [-QC.ac,Wk.c,q1,q2,q3,hm,hd,hs,ha,c1,c1',qE2,qE3,qE4,hl2,hq,i1',e3,e5,c2,c2',c3,c3',c4,c4',c5,c5',c6,c6',aN,hT,v1,v2,gG,aK,hO,aF,hA,hB,hC,g0,g1,g2,hN,w1,h9,hc0,hc1,b2,m1,m2,m3,m4,gb2,gc2,h8]
   all_goals first | exact hi | exact ⟨hi,i1'⟩ | exact ⟨hi,i1',hi,by decide⟩
  ·by_cases z0:s=0
   ·have hk0 : ¬ k0=1:=fun h=>b1 ⟨z0,h⟩
    subst z0
    have b2 : ¬ ((0:Int)=86399/\k1 = -1):=fun h=>absurd h.1 (by decide)
    obtain ⟨ea,na,da,sa,aa⟩:=ra
    have r1:=aR0 gA
    have r2:=aRY gA
    have m1:=l3a b1 b2
    have m2:=l3b b1 b2
    have m3:=l3c b1 b2
    dsimp only at m1
    subst m1 m2 m3
    dsimp only [Ah] at r1 r2
    cases o<;>simp only [aF] at v1 v2<;>simp [-QC.ac,Wk.c,q1,q2,q3,hm,hd,hs,ha,c1,c1',qE2,qE3,qE4,hl2,hq,i1',e3,e5,c2,c2',c3,c3',c4,c4',c5,c5',c6,c6',aN,hT,v1,v2,gG,aK,hO,aF,hA,hB,hC,g0,g1,g2,hN,w1,h9,hc0,hc1,r1,r2,hk0]
    all_goals exact ⟨hi,i1',hi⟩
   ·by_cases b2:s=86399/\k1 = -1
    ·have m1:=l2a b1 b2
     have m2:=l2b b1 b2
     have m3:=l2c b1 b2
     obtain ⟨z1,z2⟩:=b2
     subst z1
     obtain ⟨ea,na,da,sa,aa⟩:=ra
     obtain ⟨eb,nb',lb'⟩:=rb
     obtain ⟨ec,nc,lc⟩:=rc
     dsimp only at m1 m2 m3
     cases o<;>simp only [aF] at v1 v2<;>simp [-QC.ac,Wk.c,q1,q2,q3,hm,hd,hs,ha,c1,c1',qE2,qE3,qE4,hl2,hq,i1',e3,e5,c2,c2',c3,c3',c4,c4',c5,c5',c6,c6',aN,hT,v1,v2,gG,aK,hO,aF,hA,hB,hC,g0,g1,g2,hN,w1,h9,hc0,hc1,z0,z2,m1,m2,m3]
     all_goals exact ⟨hi,i1',hi⟩
    ·by_cases z1:s=86399
     ·have hk1 : ¬ k1 = -1:=fun h=>b2 ⟨z1,h⟩
      subst z1
      obtain ⟨ea,na,da,sa,aa⟩:=ra
      have r1:=aR0 gA
      have r2:=aRY gA
      have m1:=l3a b1 b2
      have m2:=l3b b1 b2
      have m3:=l3c b1 b2
      dsimp only at m1
      subst m1 m2 m3
      dsimp only [Ah] at r1 r2
      cases o<;>simp only [aF] at v1 v2<;>simp [-QC.ac,Wk.c,q1,q2,q3,hm,hd,hs,ha,c1,c1',qE2,qE3,qE4,hl2,hq,i1',e3,e5,c2,c2',c3,c3',c4,c4',c5,c5',c6,c6',aN,hT,v1,v2,gG,aK,hO,aF,hA,hB,hC,g0,g1,g2,hN,w1,h9,hc0,hc1,r1,r2,z0,hk1]
      all_goals exact ⟨hi,i1',hi⟩
     ·obtain ⟨ea,na,da,sa,aa⟩:=ra
      have r1:=aR0 gA
      have r2:=aRY gA
      have m1:=l3a b1 b2
      have m2:=l3b b1 b2
      have m3:=l3c b1 b2
      dsimp only at m1
      subst m1 m2 m3
      dsimp only [Ah] at r1 r2
      cases o<;>simp only [aF] at v1 v2<;>simp [-QC.ac,Wk.c,q1,q2,q3,hm,hd,hs,ha,c1,c1',qE2,qE3,qE4,hl2,hq,i1',e3,e5,c2,c2',c3,c3',c4,c4',c5,c5',c6,c6',aN,hT,v1,v2,gG,aK,hO,aF,hA,hB,hC,g0,g1,g2,hN,w1,h9,hc0,hc1,r1,r2,z0,z1]
      all_goals exact ⟨hi,i1',hi⟩
 ·simp [Wk.c,q1,q2,q3,hm]
  exact hi
end Go.Proofs.YtfcbohachbeamaaGreatDoor.E
end
section
namespace Go.Proofs.YtfcbohachbeamaaGreatDoor.E
open Go.VC Go.RowKit Go.ChangeShapes Go.WideShapes Go.ChangeAt Go.Joins
variable {H:Type} {enc:TypeId×Value->H} {W:World} {b0:Nat} {held:Bool} {d:DataW H} {p:List MemPlace}
theorem O1 {b o n len:Nat} {xs:List (DataW H×List MemPlace)} (hn:xs.length=len) (hel : ∀ i,i<len->(W.cells? 0 (Addr.add ⟨b,o,none⟩ (i*2)) 2).bind (DataW.trod enc Tryz.prog W 0 (fun _=>true) held n 51)=xs[i]?) :
 ∀ m k,k+m=len -> ∃ es:List En,es.length=m/\pE es /\ ∀ j x,(bR es)[j]? = some x->W.cell? ⟨b,o+(k*2+j),none⟩=some x
 | 0,k,_=>⟨[],rfl,trivial,fun j x h=>by cases h⟩
 | m+1,k,hk=>by
  obtain ⟨es,h1,h2,h3⟩:=O1 hn hel m (k+1) (by omega)
  have h:=hel k (by omega)
  rw [List.getElem?_eq_getElem (show k<xs.length by omega)] at h
  simp only [Option.bind_eq_some_iff] at h
  obtain ⟨cs,hc,ht⟩:=h
  obtain ⟨_,hl,hcell⟩:=World.cells?_some hc
  obtain ⟨y0,y1,m',-,-,k0,k1⟩:=trod_struct2 Tryz.underlying51 ht
  match cs,hl with
  | [c0,c1],_=>
  obtain ⟨a0,e0,-,w0⟩:=DataW.trod_int Tryz.underlying3 k0
  obtain ⟨a1,e1,-,w1⟩:=DataW.trod_int Tryz.underlying3 k1
  have c3:Tryz.prog.cellsOf 3=1:=by kernel_rfl
  simp [c3] at e0 e1
  subst e0 e1
  have q0:=hcell 0 (by omega)
  have q1:=hcell 1 (by omega)
  have r0:=bounds_i64 w0
  have r1:=bounds_i64 w1
  have ad : ∀ {x y:Nat},(⟨b,x,none⟩:Addr).add y=⟨b,x+y,none⟩:=fun {x y} => by unfold Addr.add;split<;>simp_all
  rw [ad,ad] at q0 q1
  refine ⟨(a0,a1)::es,by simp [h1],⟨?_,?_,h2⟩,fun j x hx=> ?_⟩
  ·unfold bD;dsimp only;omega
  ·unfold bD;dsimp only;omega
  ·match j,hx with
   | 0,hx=>cases hx;simpa using q0
   | 1,hx=>
    cases hx
    rw [show o+(k*2+1)=o+k*2+1 by omega]
    simpa using q1
   | j+2,hx=>
    have:=h3 j x hx
    rw [show o+(k*2+(j+2))=o+((k+1)*2+j) by omega]
    exact this
theorem aGE {A:Option Addr} {len cap fuel:Nat} {x:DataW H×List MemPlace} (hv:Cell.okWide Tryz.prog W .any b0 22 (.slice A len cap)) (h:DataW.trod enc Tryz.prog W 0 (fun _=>true) held fuel 22 [.slice A len cap]=some x) :
 ∃ es:List En,pE es/\nY (fun _=>False) W 2 (.slice A len cap) (qE es):=by
 rcases DataW.trod_slice Tryz.underlying22 h with ⟨hcs,_⟩ | ⟨a,l,c,xs,rest,n,-,hcs,-,-,hl,-,hlen,hel,-⟩
 ·simp only [List.cons.injEq,Value.slice.injEq,and_true] at hcs
  obtain ⟨rfl,rfl,rfl⟩:=hcs
  exact ⟨[],trivial,.inl ⟨rfl,rfl⟩⟩
 ·simp only [List.cons.injEq,Value.slice.injEq,and_true] at hcs
  obtain ⟨rfl,rfl,rfl⟩:=hcs
  have c51:Tryz.prog.cellsOf 51=2:=by kernel_rfl
  rw [c51] at hel
  simp only [Cell.okWide,Cell.ok,Tryz.underlying22] at hv
  obtain ⟨_,_,_,hsp,row,cells,hsh,_⟩:=hv
  obtain ⟨b,o,sp⟩:=a
  simp only at hsp hsh
  subst hsp
  have hb:b<W.heap.size:=by
   unfold World.shape? at hsh
   rcases Nat.lt_or_ge b W.heap.size with h | h
   ·exact h
   ·rw [Array.getElem?_eq_none (by omega)] at hsh;cases hsh
  obtain ⟨es,h1,h2,h3⟩:=O1 hlen hel len 0 (by omega)
  refine ⟨es,h2,.inr ⟨b,o,len,cap,rfl,by rw [iC,h1],hl,fun h=>h,hb,fun j cc hj=> ?_⟩⟩
  rw [Ja,List.getElem?_map] at hj
  cases hv:(bR es)[j]? with
  | none=>rw [hv] at hj;cases hj
  | some y=>
   rw [hv] at hj
   cases hj
   have:=h3 j y hv
   rw [Nat.zero_mul,Nat.zero_add] at this
   exact ⟨y,this,rfl,Jl es y (List.mem_of_getElem? hv)⟩
theorem aLx {v:Value} (hv:Value.okWide Tryz.prog W .any b0 24 v) (h:DataW.Trod enc Tryz.prog W 0 (fun _=>true) held 24 v d p) :
 ∃ (t:bC) (sv':Value),v = .agg #[.int .i64 t.u,.int .i64 t.x,sv']/\bV.p t/\nY (fun _=>False) W 2 sv' (qE t.es):=by
 obtain ⟨cs,rfl,hsz,ts,hts,_,hcell⟩ : ∃ cs,v = .agg cs/\cs.size=Tryz.prog.cellsOf 24/\Row.okWide Tryz.prog W .any b0 24 cs:=by
  have:=hv
  unfold Value.okWide at this
  rw [Tryz.underlying24] at this
  exact this
 have c24:Tryz.prog.cellsOf 24=3:=by kernel_rfl
 rw [c24] at hsz
 obtain ⟨x0,x1,x2,rfl⟩ : ∃ x0 x1 x2,cs = #[x0,x1,x2]:=by
  obtain ⟨l⟩:=cs
  match l,hsz with
  | [x0,x1,x2],_=>exact ⟨x0,x1,x2,rfl⟩
 have hts':Tryz.prog.cellTypes Tryz.prog.depth 24=some [3,3,22]:=by kernel_rfl
 rw [hts'] at hts
 cases hts
 obtain ⟨u,hu,hk⟩:=hcell 2 x2 rfl
 cases hu
 obtain ⟨fuel,hf⟩:=h
 obtain ⟨xs,n,-,-,-,hxl,hff⟩:=DataW.trod_struct Tryz.underlying24 hf
 have c3:Tryz.prog.cellsOf 3=1:=by kernel_rfl
 have c22:Tryz.prog.cellsOf 22=1:=by kernel_rfl
 match xs,hxl with
 | [y0,y1,y2],_=>
 have k0:DataW.trod enc Tryz.prog W 0 (fun _=>true) held n 3 (([x0,x1,x2].drop 0).take (Tryz.prog.cellsOf 3))=some y0:=hff 0 _ rfl
 have k1:DataW.trod enc Tryz.prog W 0 (fun _=>true) held n 3 (([x0,x1,x2].drop 1).take (Tryz.prog.cellsOf 3))=some y1:=hff 1 _ rfl
 have k2:DataW.trod enc Tryz.prog W 0 (fun _=>true) held n 22 (([x0,x1,x2].drop 2).take (Tryz.prog.cellsOf 22))=some y2:=hff 2 _ rfl
 rw [c3] at k0 k1
 rw [c22] at k2
 simp only [List.drop_zero,List.drop_succ_cons,List.take_succ_cons,List.take_zero] at k0 k1 k2
 obtain ⟨a0,e0,-,w0⟩:=DataW.trod_int Tryz.underlying3 k0
 obtain ⟨a1,e1,-,w1⟩:=DataW.trod_int Tryz.underlying3 k1
 simp at e0 e1
 subst e0 e1
 have r0:=bounds_i64 w0
 have r1:=bounds_i64 w1
 have hx2 : ∃ A len cap,x2 = .slice A len cap:=by
  rcases DataW.trod_slice Tryz.underlying22 k2 with ⟨h1,_⟩ | ⟨a,l,c,_,_,_,_,h1,_⟩
  ·exact ⟨none,0,0,by simpa using h1⟩
  ·exact ⟨_,_,_,by simpa using h1⟩
 obtain ⟨A,len,cap,rfl⟩:=hx2
 obtain ⟨es,h1,h2⟩:=aGE hk k2
 exact ⟨⟨a0,a1,es⟩,_,rfl,⟨by unfold bD;dsimp only;omega,by unfold bD;dsimp only;omega,h1⟩,h2⟩
theorem aRw {W:World} (hs:W.ShapedOpen Tryz.prog) (hl:laidMetH Tryz.prog Rows.wholeDiffsRow.laid W):aZ W:=by
 have hg : ∀ g zero t,g<Tryz.prog.globals.size->((begin Tryz.prog (fun _ _=>0) default).world.heap[g]?).bind Obj.row? = some (zero,t) -> ∃ cs,W.heap[g]? = some (.cells cs t)/\cs.size=zero.size/\(Tryz.prog.buildable t=true->Row.ok Tryz.prog W .any 0 t cs):=hs.1
 have z0:((begin Tryz.prog (fun _ _=>0) default).world.heap[0]?).bind Obj.row? = some (#[.int .i64 0],3):=by kernel_rfl
 have gs:Tryz.prog.globals.size=11:=by kernel_rfl
 rw [gs] at hg
 obtain ⟨c0,h0,hsz,hok⟩:=hg 0 _ _ (by decide) z0
 obtain ⟨ts,hts,-,hcell⟩:=hok (by kernel_rfl)
 have hts':Tryz.prog.cellTypes Tryz.prog.depth 3=some [3]:=by kernel_rfl
 rw [hts'] at hts
 cases hts
 have hsz:c0.size=1:=hsz
 obtain ⟨v0,rfl⟩ : ∃ v0,c0 = #[v0]:=by
  obtain ⟨l⟩:=c0
  match l,hsz with
  | [v0],_=>exact ⟨v0,rfl⟩
 obtain ⟨u,hu,hk⟩:=hcell 0 v0 rfl
 cases hu
 obtain ⟨m,rfl⟩ : ∃ m,v0 = .int .i64 m:=by
  simp only [Cell.ok,Tryz.underlying3] at hk
  split at hk<;>simp_all
 have hs2 : ∀ k,Tryz.prog.globals.size<=k->k<(begin Tryz.prog (fun _ _=>0) default).world.heap.size -> ∃ o o₀,W.heap[k]? = some o/\(begin Tryz.prog (fun _ _=>0) default).world.heap[k]? = some o₀ /\ (if World.looseAt (k-Tryz.prog.globals.size)=true then o.alike o₀ else o=o₀):=hs.2
 obtain ⟨o11,-,h11,-⟩:=hs2 11 (by rw [gs];decide) (of_decide_eq_true (by kernel_rfl))
 have h12:=(Array.getElem?_eq_some_iff.1 h11).1
 refine ⟨by unfold NG;omega,⟨m,?_⟩,?_⟩
 ·unfold World.cell?
  rw [h0]
  rfl
 ·rw [MakeChecks.laidMetH_plain _ _ _ (by kernel_rfl)] at hl
  obtain ⟨ps,⟨_,_,_,_,_,_,_,_,_,_,⟨_,_,_,_,_,_,_,_,_,_,⟨g,t,cs,f,p,q,hg5,ht5,hv5,hd5,-⟩,_⟩,_⟩,_⟩:=hl
  have hg5':Tryz.prog.globalNamed "internal/strconv.uint64pow10" = some 5:=by kernel_rfl
  rw [hg5'] at hg5
  cases hg5
  have ht5':Option.map (fun x=>x.type) Tryz.prog.globals[5]? = some 369:=by kernel_rfl
  rw [ht5'] at ht5
  cases ht5
  obtain ⟨tt,pp,h5⟩ : ∃ tt pp,W.heap[5]? = some (.cells cs tt pp):=by
   simp only [World.var?,hg5',Option.bind_some] at hv5
   split at hv5<;>simp_all
  refine ⟨tt,pp,?_⟩
  rw [h5]
  congr 2
  obtain ⟨xs,m1,-,hx1,hlen,hn3,hel⟩:=DataW.trod_array Tryz.underlying369 hd5
  have c25:Tryz.prog.cellsOf 25=1:=by kernel_rfl
  have c369:Tryz.prog.cellsOf 369=20:=by kernel_rfl
  have hL:Rows.laid_internal_strconv_uint64pow10=(DataW.agg ((List.range 20).map fun i=>DataW.lit (Lit.int .u64 ((10 ^ i:Nat):Int))):DataW Unit):=by kernel_rfl
  rw [hL] at hx1
  simp only [Prod.mk.injEq,DataW.agg.injEq] at hx1
  rw [c369] at hlen
  apply Array.ext'
  show cs.toList=((List.range 20).map fun i=>Value.int .u64 ((10 ^ i:Nat):Int))
  apply List.ext_getElem?
  intro i
  by_cases hi:i<20
  ·have h1:=hel i hi
   rw [c25,Nat.mul_one] at h1
   rw [List.getElem?_eq_getElem (show i<xs.length by omega)] at h1
   obtain ⟨n,e1,e2,-⟩:=DataW.trod_int Tryz.underlying25 h1
   have h2:(xs.map (·.1))[i]? = some (DataW.lit (Lit.int .u64 n)):=by
    rw [List.getElem?_map,List.getElem?_eq_getElem (show i<xs.length by omega),e2];rfl
   rw [← hx1.1,List.getElem?_map,List.getElem?_range hi] at h2
   simp only [Option.map_some,Option.some.injEq,DataW.lit.injEq,Lit.int.injEq,true_and] at h2
   have h3:cs.toList[i]? = some (.int .u64 n):=by
    have:=congrArg (fun l:List Value=>l[0]?) e1
    simpa [List.getElem?_take,List.getElem?_drop] using this
   rw [h3,List.getElem?_map,List.getElem?_range hi,← h2]
   rfl
  ·rw [List.getElem?_eq_none (by omega),List.getElem?_eq_none (by simp;omega)]
theorem aGi {a:Assume} {C:Checked} {os:Os} {f:FuncId} {fn:Func} {s:ChangeSpec} {conds:List PathCond} {apart fresh handsOn again:Bool} {X:World->Array Value->Prop}
 (hX : ∀ (w w':World) (args:Array Value),w.heap=w'.heap->X w args->X w' args)
 (own:ownKnob C.prog.godebug=none) (started:os.Started) (noInit:C.prog.inits.idxOf? f=none) (hfn:C.prog.funcs[f]? = some fn)
 (witness : ∃ (w:World) (tape:Tape) (i:Input),w.os=os/\(w.forCall tape i).Shaped C.prog/\i.vars = []/\Input.okWide C.prog (w.forCall tape i) .any w.heap.size f i /\
  ((s.pre enc C.prog fn conds apart (w.forCall tape i).memory i.args/\X (w.forCall tape i).memory i.args)/\sizedMet enc C.prog fn (OpenSpec.ofChange s) apart (w.forCall tape i).memory i.args)/\a.holds C.prog (lone (Frame.enter C.prog f i.args .normal) [] (w.forCall tape i)))
 (contract : ∀ (W:World) (base:Nat) (args:Array Value) (ds gs:List (DataW H)) (before:List MemPlace),
  (∀ (j:Nat) t v,fn.params[j]? = some t->args[j]? = some v->Value.okWide C.prog W .any base t v) ->
  DataW.Whole enc C.prog fn.params.toList s.vars apart W args.toList ds gs before->X W args->W.ShapedOpen C.prog ->
  Calls C.prog f args W fun e W'=> ∃ v,e = .returned v/\s.post enc C.prog fn apart fresh handsOn again W args v W') :
 ReturnsInHanded a C os f .any (fun w args=>(s.pre enc C.prog fn conds apart w args/\X w args)/\sizedMet enc C.prog fn (OpenSpec.ofChange s) apart w args) (s.post enc C.prog fn apart fresh handsOn again):=by
 refine returnsInHanded_of_calls own started noInit witness ?_
 intro w tape i _ hso _ hok hpre hholds
 obtain ⟨_,_,_,fn',hfn',_,_,_,_,hval⟩:=hok
 have e:fn'=fn:=Option.some.inj (hfn'.symm.trans hfn)
 subst e
 obtain ⟨⟨⟨ds,gs,before,hw,hc⟩,hx⟩,hz⟩:=hpre
 have hw':=DataW.Whole.of_heap (w':=w.forCall tape i) (by rfl) hw
 refine (contract (w.forCall tape i) w.heap.size i.args ds gs before hval hw' (hX _ _ _ (by rfl) hx) hso).mono fun e W' ⟨v,he,hp⟩=> ?_
 subst he
 exact ChangeSpec.post_blind hp
theorem aMq {f:Nat} {s:List AP->Option AV} (h:Ok Tryz.prog f s) (ent:Enters Tryz.prog f) {xs:List AP} (hs:s xs=some (.o (bv true))) {w:World} {vs:List Value} (G:aZ w) (hrep:cP ⟨fun _=>False,fun _=>0,fun _=>False⟩ w xs vs) :
 Calls Tryz.prog f vs.toArray w fun e w'=>e = .returned (.bool true)/\Below w.heap.size w w':=
 (Z9 h hs ent (fun t n h=>by cases h) rfl G (fun _=>False) (fun _ h=>h.elim) hrep hrep).mono fun e w' ⟨v,he,hv,hb⟩=>by
  subst he
  exact ⟨by rw [hv.1],hb⟩
end Go.Proofs.YtfcbohachbeamaaGreatDoor.E
end
