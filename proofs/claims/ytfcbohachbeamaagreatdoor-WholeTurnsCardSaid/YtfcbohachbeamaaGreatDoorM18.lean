/- What the laws' code answers: part 18 of what the rows of this seat lean on. -/
import Derived.Test.YtfcbohachbeamaaGreatDoorM13
import Derived.Test.YtfcbohachbeamaaGreatDoorM17
import Derived.Test.YtfcbohachbeamaaGreatDoorRows
import Derived.WalkKit
import Derived.ProofKit
import Derived.OpenShut
import Derived.ShutString
import Derived.ChangeOld
import Derived.Below
import Derived.SizedLaws
import Derived.Carry
import Derived.LaidMore
import Derived.Lib.SmallJoins
set_option linter.unusedVariables false
set_option linter.unusedSimpArgs false
set_option maxHeartbeats 8000000
set_option maxRecDepth 100000
section
namespace Go.Proofs.YtfcbohachbeamaaGreatDoor.E
open Go.VC Go.RowKit Go.VC.Tx
theorem Ig : ∀ (a r:List UInt8),(10:UInt8) ∉ a->bT (a++10::r)=a::bT r
 | [],r,_=>by simp [bT]
 | c::a,r,h=>by
  have hc : ¬ c=10:=fun e=>h (by simp [e])
  have ih:=Ig a r (fun hm=>h (by simp [hm]))
  simp only [List.cons_append,bT,if_neg hc,ih]
theorem Nr {n:Int} (h:0<=n):(10:UInt8) ∉ Lib.itoa n:=aAl (Jj h) (by decide)
theorem aPu (w:Nat):(10:UInt8) ∉ gM w:=aAl (Ww w) (by decide)
theorem aSw : ∀ l,(10:UInt8) ∉ cG l
 | []=>by simp [cG]
 | w::r=>by
  have h1:=aPu w
  have h2:=aSw r
  simp [cG,h1,h2]
def iW (e:En):List UInt8:=Lib.itoa e.1++9::Lib.itoa e.2
theorem c8 : ∀ (es:List En) (r:List UInt8),(∀ e∈es,0<=e.1/\0<=e.2)->bT (kM es++r)=es.map iW++bT r
 | [],r,_=>rfl
 | e::es,r,h=>by
  obtain ⟨h1,h2⟩:=h e (by simp)
  have ih:=c8 es r (fun x hx=>h x (by simp [hx]))
  have hn:(10:UInt8) ∉ iW e:=by
   have a:=Nr h1
   have b:=Nr h2
   simp [iW,a,b]
  have:kM (e::es)++r=iW e++10::(kM es++r):=by simp [kM,iW]
  rw [this,Ig _ _ hn,ih]
  rfl
theorem aQk (t:bC) (hu:0<=t.u) (hx:0<=t.x) (he : ∀ e∈t.es,0<=e.1/\0<=e.2) :
 bT (mM t)=(35::36::9::Lib.itoa t.u)::(35::64::9::Lib.itoa t.x)::(t.es.map iW ++ [35::104::cG (H5.l (kX t))]):=by
 have e1:mM t=(35::36::9::Lib.itoa t.u)++10::((35::64::9::Lib.itoa t.x)++10::(kM t.es++((35::104::cG (H5.l (kX t)))++10 :: []))):=by simp [mM]
 have n1:(10:UInt8) ∉ (35::36::9::Lib.itoa t.u:List UInt8):=by simp [Nr hu]
 have n2:(10:UInt8) ∉ (35::64::9::Lib.itoa t.x:List UInt8):=by simp [Nr hx]
 have n3:(10:UInt8) ∉ (35::104::cG (H5.l (kX t)):List UInt8):=by simp [aSw]
 rw [e1,Ig _ _ n1,Ig _ _ n2,c8 _ _ he,Ig _ _ n3]
 rfl
theorem aDH:lU fD=Tx.dg:=by funext c;simp [lU,sV,Tx.dg]
theorem N6:lU fH=hg:=by
 funext c
 have h : ¬ fH=fD:=by decide
 simp only [lU]
 rw [if_neg h]
 rfl
theorem Sx {n:Int} (h:0<=n) {r:List UInt8} (hr : ∀ c s,r=c::s->Tx.dg c=false):tk fD (Lib.itoa n++r)=Lib.itoa n/\dk fD (Lib.itoa n++r)=r:=by
 unfold tk dk
 rw [aDH]
 exact Qv (Jj h) hr
theorem Sp {n:Int} (h:0<=n) (h2:n<0xde0b6b3a7640000):iY (Lib.itoa n):=⟨Lh h,aMm h h2,aJc h⟩
theorem Sd {n:Int} (h:0<=n):mY (Lib.itoa n)=n:=by unfold mY;rw [aNp h];rfl
theorem D8 {n k:Int} (h:0<=n) (h2:n<0xde0b6b3a7640000):tO k (9::Lib.itoa n)=some (k,n,0,jC):=by
 have t1:tr (9::Lib.itoa n)=Lib.itoa n:=by
  unfold tr
  rw [Uj _ _ (by decide)]
  have:=Xm h []
  simpa using this
 have t2:=Sx h (r:= []) (fun c s e=>by cases e)
 simp only [List.append_nil] at t2
 have t3:tr [] = []:=rfl
 have ho:one? (9::Lib.itoa n):=by
  unfold one?
  rw [t1,t2.1,t2.2,t3]
  exact ⟨by simp,Sp h h2,rfl⟩
 unfold tO
 rw [if_pos ho,t1,t2.1,Sd h]
theorem Hg (a b c d:UInt8) (l:List UInt8):Lib.hasPrefix (a::b::l) [c,d]=(decide (a=c)&&decide (b=d)):=by
 have e:Lib.hasPrefix (a::b::l) [c,d]=((c==a)&&((d==b)&&true)):=rfl
 rw [e]
 by_cases h1:a=c
 ·subst h1
  by_cases h2:b=d
  ·subst h2;simp
  ·have:(d==b)=false:=beq_eq_false_iff_ne.2 (Ne.symm h2)
   simp [this,h2]
 ·have:(c==a)=false:=beq_eq_false_iff_ne.2 (Ne.symm h1)
  simp [this,h1]
theorem aRH {n:Int} (h:0<=n) (h2:n<0xde0b6b3a7640000):bB (35::36::9::Lib.itoa n)=some (2,n,0,jC):=by
 unfold bB
 rw [if_pos (by rw [Hg];rfl)]
 exact D8 h h2
theorem aJn {n:Int} (h:0<=n) (h2:n<0xde0b6b3a7640000):bB (35::64::9::Lib.itoa n)=some (3,n,0,jC):=by
 unfold bB
 rw [if_neg (by rw [Hg];decide),if_pos (by rw [Hg];rfl)]
 exact D8 h h2
theorem aOp {n:Int} (h:0<=n) : ∃ c r,Lib.itoa n=c::r/\Tx.dg c=true:=by
 have h1:=Jj h
 have h2:=Lh h
 cases hh:Lib.itoa n with
 | nil=>exact absurd hh h2
 | cons c r=>
  rw [hh] at h1
  simp only [List.all_cons,Bool.and_eq_true] at h1
  exact ⟨c,r,rfl,h1.1⟩
theorem Qg {c:UInt8} {l p:List UInt8} (h:Tx.dg c=true) : ¬ Lib.hasPrefix (c::l) (35::p)=true:=by
 intro hp
 have:c=35:=by
  simp only [Lib.hasPrefix,List.isPrefixOf,Bool.and_eq_true,beq_iff_eq] at hp
  exact hp.1.symm
 subst this
 exact absurd h (by decide)
theorem aE5 {a b:Int} (ha:0<=a) (ha2:a<0xde0b6b3a7640000) (hb:0<=b) (hb2:b<0xde0b6b3a7640000):bB (iW (a,b))=some (5,a,b,jC):=by
 obtain ⟨c,r,hc,hd⟩:=aOp ha
 have hl:iW (a,b)=c::(r++9::Lib.itoa b):=by simp [iW,hc]
 have htr:tr (iW (a,b))=iW (a,b):=Xm ha _
 have hne : ¬ tr (iW (a,b)) = []:=by rw [htr,hl];simp
 have t1:=Sx ha (r:=9::Lib.itoa b) (fun c s e=>by cases e;decide)
 have e1:tk fD (iW (a,b))=Lib.itoa a:=t1.1
 have e2:mD (iW (a,b))=9::Lib.itoa b:=t1.2
 have e3:iK (iW (a,b))=Lib.itoa b:=by
  unfold iK
  rw [e2]
  unfold tr
  rw [Uj _ _ (by decide)]
  simpa using Xm hb []
 have t2:=Sx hb (r:= []) (fun c s e=>by cases e)
 simp only [List.append_nil] at t2
 have e4:tk fD (iK (iW (a,b)))=Lib.itoa b:=by rw [e3];exact t2.1
 have e5:mI (iW (a,b)) = []:=by unfold mI;rw [e3];exact t2.2
 have e6:kR (iW (a,b)) = []:=by unfold kR;rw [e5];rfl
 have hdata:data? (iW (a,b)):=by
  unfold data?
  rw [e1,e2,e4,e6,e3]
  exact ⟨Sp ha ha2,by simp,Sp hb hb2,.inl rfl⟩
 unfold bB
 rw [if_neg (by rw [hl];exact Qg hd),if_neg (by rw [hl];exact Qg hd),if_neg (by rw [hl];exact Qg hd),if_neg (by rw [hl] at hne ⊢;exact fun h=>h.elim (Qg hd) hne)]
 unfold Ko
 rw [if_pos hdata,e1,e4,Sd ha,Sd hb]
theorem aDa {d:Nat} (h:d<16):nZ (hx d)=(d:Int):=by
 unfold nZ
 rw [aBl h]
 split<;>split<;>omega
theorem aDd {w:Nat} (h:w<4294967296):cW (gM w)=(w:Int):=by
 have m (x:Nat):x%16<16:=Nat.mod_lt _ (by decide)
 simp only [cW,gM,sD,aDa (m _)]
 omega
theorem aIV (w:Nat) (l:List Nat):jD (cG (w::l))/\tk fH (tr (cG (w::l)))=gM w/\dk fH (tr (cG (w::l)))=cG l:=by
 have t1:tr (cG (w::l))=gM w++cG l:=by
  unfold tr
  rw [cG,Uj _ _ (by decide)]
  exact aEf w _
 have hn : ∀ c s,cG l=c::s->hg c=false:=fun c s e=>by
  cases l with
  | nil=>cases e
  | cons x l=>rw [cG] at e;cases e;decide
 have t2:=Qv (Ww w) hn
 have e1:tk fH (tr (cG (w::l)))=gM w:=by rw [t1];unfold tk;rw [N6];exact t2.1
 have e2:dk fH (tr (cG (w::l)))=cG l:=by rw [t1];unfold dk;rw [N6];exact t2.2
 refine ⟨⟨by rw [t1,cG];simp,?_⟩,e1,e2⟩
 rw [e1]
 exact ⟨by simp [gM],by rw [Vt];decide⟩
theorem J1 : ∀ (l:List Nat),(∀ w∈l,w<4294967296)->hK l.length (cG l)=true/\hR l.length (cG l) = []/\gL l.length (cG l)=l.map (fun (w:Nat)=>(w:Int))
 | [],_=>⟨rfl,rfl,rfl⟩
 | w::l,h=>by
  obtain ⟨h1,h2,h3⟩:=aIV w l
  obtain ⟨i1,i2,i3⟩:=J1 l (fun x hx=>h x (by simp [hx]))
  refine ⟨?_,?_,?_⟩
  ·simp only [List.length_cons,hK,h1,decide_true,Bool.true_and,h3,i1]
  ·simp only [List.length_cons,hR,if_pos h1,h3,i2]
  ·simp only [List.length_cons,gL,h2,h3,i3,List.map_cons,aDd (h w (by simp))]
theorem aNA {S:H5} (ho:S.ok):bB (35::104::cG (H5.l S))=some (4,0,0,(H5.l S).map fun (w:Nat)=>(w:Int)):=by
 have hw : ∀ w∈H5.l S,w<4294967296:=by
  obtain ⟨h1,h2,h3,h4,h5⟩:=ho
  intro w hw
  simp only [H5.l,List.mem_cons,List.not_mem_nil,or_false] at hw
  rcases hw with rfl | rfl | rfl | rfl | rfl<;>assumption
 obtain ⟨i1,i2,i3⟩:=J1 (H5.l S) hw
 have hlen:(H5.l S).length=5:=rfl
 rw [hlen] at i1 i2 i3
 unfold bB
 rw [if_neg (by rw [Hg];decide),if_neg (by rw [Hg];decide),if_pos (by rw [Hg];rfl)]
 unfold Hc
 show (if hK 5 (cG (H5.l S))=true/\tr (hR 5 (cG (H5.l S))) = [] then some ((4:Int),(0:Int),(0:Int),gL 5 (cG (H5.l S))) else none)=_
 rw [i1,i2,i3]
 rw [if_pos ⟨rfl,rfl⟩]
theorem Y6 {S:H5} (ho:S.ok) : ∀ (es:List En) (r:Rd) (i:Nat),dS r.es es=none->(∀ e∈es,(0<=e.1/\e.1<0xde0b6b3a7640000)/\0<=e.2/\e.2<0xde0b6b3a7640000)->r.at_ 4=0 -> ∃ f,nG r i (es.map iW ++ [35::104::cG (H5.l S)])=(⟨r.u,r.x,r.es++es,(H5.l S).map fun (w:Nat)=>(w:Int),f⟩,none)/\f 2=r.at_ 2/\f 3=r.at_ 3/\f 4≠0/\(es ≠ []∨r.at_ 5≠0->f 5≠0)
 | [],r,i,_,_,h4=>by
  refine ⟨fun j=>if j=4 then (i:Int)+1 else r.at_ j,?_,rfl,rfl,by simp;omega,fun h=> ?_⟩
  ·simp only [List.map_nil,List.nil_append,nG,aNA ho,bM]
   simp [h4]
  ·rcases h with h | h
   ·exact absurd rfl h
   ·simpa using h
 | e::es,r,i,hb,hr,h4=>by
  obtain ⟨a,b⟩:=e
  obtain ⟨⟨a0,a1⟩,b0,b1⟩:=hr (a,b) (by simp)
  simp only [dS] at hb
  split at hb
  ·rename_i he
   obtain ⟨f,f1,f2,f3,f4,f5⟩:=Y6 ho es { r with at_:=fun j=>if j=5 then (i:Int)+1 else r.at_ j,es:=r.es ++ [(a,b)] } (i+1) hb (fun x hx=>hr x (by simp [hx])) (by simpa using h4)
   have hadd:bM r (some (5,a,b,jC)) ((i:Int)+1)=({ r with at_:=fun j=>if j=5 then (i:Int)+1 else r.at_ j,es:=r.es ++ [(a,b)] },0):=by simp [bM,he]
   refine ⟨f,?_,by simpa using f2,by simpa using f3,f4,fun _=>f5 (.inr (by simp;omega))⟩
   simp only [List.map_cons,List.cons_append,nG,aE5 a0 a1 b0 b1,hadd,if_true]
   rw [f1]
   simp
  ·cases hb
theorem aAj : ∀ {pre es:List En},dS pre es=none -> ∀ e∈es,(0<=e.1/\e.1<=1125899906842624)/\0<=e.2/\e.2<=1000
 | _,[],_,e,he=>by cases he
 | pre,x::es,h,e,he=>by
  simp only [dS] at h
  split at h
  ·rename_i hk
   rcases List.mem_cons.1 he with rfl | he
   ·exact ⟨hk.2.1,hk.2.2.2.1⟩
   ·exact aAj h e he
  ·cases h
theorem aJv {t:bC} (hp:bV.p t) (hm:dG t):(mM t).length<=65536:=by
 have h1:=lX hp.1
 have h2:=lX hp.2.1
 have h3:=Tc hp.2.2
 have h4:=Df hm
 have h5:=Pf (H5.l (kX t))
 have h6:(H5.l (kX t)).length=5:=rfl
 simp [mM]
 omega
theorem aGf {t:bC} (hp:bV.p t) (hm:dG t):dQ (mM t)=(t,0,0):=by
 have hlen:=aJv hp hm
 obtain ⟨u,x,es⟩:=t
 have hm':=hm
 obtain ⟨hb,hne,⟨u0,u1⟩,x0,x1⟩:=hm
 simp only at hb hne u0 u1 x0 x1
 have hrng:=aAj hb
 have hl:=aQk ⟨u,x,es⟩ u0 x0 (fun e he=>⟨(hrng e he).1.1,(hrng e he).2.1⟩)
 have ho:(kX ⟨u,x,es⟩).ok:=Uc _
 obtain ⟨f,f1,f2,f3,f4,f5⟩:=Y6 ho es ⟨u,x,[],[0,0,0,0,0],fun j=>if j=3 then 2 else if j=2 then 1 else 0⟩ 2 hb (fun e he=>by have:=hrng e he;omega) (by simp)
 have hrun:nG wR 0 (bT (mM ⟨u,x,es⟩))=(⟨u,x,es,(H5.l (kX ⟨u,x,es⟩)).map fun (w:Nat)=>(w:Int),f⟩,none):=by
  rw [hl]
  have a1:bM wR (some (2,u,0,jC)) (((0:Nat):Int)+1)=(⟨u,0,[],[0,0,0,0,0],fun j=>if j=2 then 1 else 0⟩,0):=by simp [bM,wR]
  have a2:bM ⟨u,0,[],[0,0,0,0,0],fun j=>if j=2 then 1 else 0⟩ (some (3,x,0,jC)) (((0+1:Nat):Int)+1)=(⟨u,x,[],[0,0,0,0,0],fun j=>if j=3 then 2 else if j=2 then 1 else 0⟩,0):=by simp [bM]
  rw [nG,aRH u0 u1,a1,if_pos rfl,nG,aJn x0 x1,a2,if_pos rfl]
  simpa using f1
 have g5:=f5 (.inl hne)
 have hcond : ¬ (f 2=0∨f 3=0∨f 4=0∨f 5=0):=by
  rw [f2,f3]
  simp [f4,g5]
 unfold dQ
 rw [if_neg (by omega),hrun]
 dsimp only
 rw [if_neg hcond,if_pos rfl]
end Go.Proofs.YtfcbohachbeamaaGreatDoor.E
end
section
namespace Go.Proofs.YtfcbohachbeamaaGreatDoor.E
open Go.VC Go.RowKit
abbrev aL6:=s1 bV dX fun t=> .o (bv (decide (dG t)))
theorem aEN:Ok Tryz.prog 9 aL6:=cA (aG Tryz.func9 Ef.ent Ef.aA (aB aOz aH)) (by simp [Ef.c]) fun t ht _=>by
 obtain ⟨p1,p2,p3⟩:=ht
 refine ⟨0,?_⟩
 simp [Ef.c,p1,p2,p3]
 exact ⟨p1,p2⟩
noncomputable abbrev aGI:=s4 bV (fR (.c .u)) (fR (.c .u)) (fR (.c .u)) (fun t _ _ _=>dG t) fun t _ _ _=> .io [1000,1001,1003] (sZ t) [.c (.p 1003 0)]
theorem M0:Ok Tryz.prog 11 aGI:=tP (aG Tryz.func11 yY.ent yY.aA (aB aQj (aB aLL (aB aB9 aH)))) [1000,1001,1003] [(900,1000),(901,1001),(903,1003)] 1 rfl rfl rfl rfl rfl (by simp [yY.c]) fun t _ _ _ ht _ _ _ hm=>by
 have hp:=ht
 obtain ⟨p1,p2,p3⟩:=ht
 have hi:bD t.u/\bD t.x:=⟨p1,p2⟩
 have hP:=aGf hp hm
 have hT:Gp (.c (.r .u8 (nb (mM t))))=mM t:=Wb
 have hV:Gb (.c (.r .u8 (nb (mM t))))=true:=Qr
 have hnb:(mM t).map (fun c=>(c.toNat:Int))=nb (mM t):=rfl
 obtain ⟨o,ho⟩ : ∃ o,oR t.es=o:=⟨_,rfl⟩
 have hm:dG t:=hm
 refine ⟨⟨_,_,rfl⟩,0,?_⟩
 cases o with
 | none=>
  simp [yY.c,Cs,gG,p1,p2,p3,hm,It,Ip,hT,hV,hP,hnb,aK,ho,aF,sv]
  exact hi
 | some R=>
  simp [yY.c,Cs,gG,p1,p2,p3,hm,It,Ip,hT,hV,hP,hnb,aK,ho,aF,sv]
  exact hi
abbrev aSa:=s1 Lb (fun e=>0<=e.1) fun e=> .o (iv .i64 (Tb.dE e))
theorem aSM:Ok Tryz.prog 17 aSa:=cA (aG Tryz.func17 Mr.ent Mr.aA aH) (by simp [Mr.c]) fun e he hg=>by
 obtain ⟨x,y⟩:=e
 have hg:0<=x:=hg
 obtain ⟨⟨e1,e2⟩,-⟩:=he
 dsimp only at e1 e2
 have h1:x.tdiv 86400=x/86400:=Int.tdiv_eq_ediv_of_nonneg hg
 have w1:IntKind.i64.wrap (x/86400)=x/86400:=aD (by omega) (by omega)
 have w2:IntKind.i64.wrap (15020+x/86400)=15020+x/86400:=aD (by omega) (by omega)
 exact ⟨0,by simp [Mr.c,h1,w1,w2,Tb.dE]⟩
theorem aSK {t:bC} (h:cC t) {i:Nat} (hi:i<t.es.length):Lb.p (t.es.getD i (0,0))/\0<=(t.es.getD i (0,0)).1:=by
 have hk:=iE h
 have h1:=hk.d i hi
 have h2:=hk.o i hi
 refine ⟨⟨?_,?_⟩,by omega⟩
 ·show -0x8000000000000000<=(t.es.getD i (0,0)).1/\(t.es.getD i (0,0)).1<0x8000000000000000
  omega
 ·show -0x8000000000000000<=(t.es.getD i (0,0)).2/\(t.es.getD i (0,0)).2<0x8000000000000000
  have:(t.es.getD i (0,0)).2=Tb.O t.es i:=rfl
  omega
abbrev aR9:=s2 bV dV (fun t _=>dG t) fun t l=> .o (bv (decide (Tb.D t.es 0<=l.1)))
theorem aSy:Ok Tryz.prog 22 aR9:=eT (aG Tryz.func22 Xl.ent Xl.aA (aB aSM aH)) (by simp [Xl.c]) fun t l ht hl hm=>by
 have hT:=Rf ht hm
 have hk:=iE hT
 have n0:=hk.n0
 have q1:=Om n0
 obtain ⟨⟨d1,d2⟩,d3⟩:=aSK hT n0
 have hl2:2<=t.es.length*2:=by omega
 obtain ⟨p1,p2,p3⟩:=ht
 obtain ⟨d,s,a⟩:=l
 simp at hl
 have e0:Tb.O t.es 0=(t.es.getD 0 (0,0)).2:=rfl
 have e1:Tb.D t.es 0=Tb.dE (t.es.getD 0 (0,0)):=rfl
 rw [e0] at q1
 rw [Nat.zero_mul,List.drop_zero] at q1
 have hq:=iC t.es
 have i1:bD (t.es.getD 0 (0,0)).1:=d1
 have i2:bD (t.es.getD 0 (0,0)).2:=d2
 refine ⟨0,?_⟩
 simp only [e1]
 generalize t.es.getD 0 (0,0)=e at *
 obtain ⟨x,y⟩:=e
 simp [-List.getD_eq_getElem?_getD,Xl.c,hl,q1,hl2,hq,i1,i2,d3]
 exact ⟨i1,i2⟩
def I1 (l:Int×Int×Int):Prop:=(-1099511627776<=l.1/\l.1<=1099511627776)/\(0<=l.2.1/\l.2.1<=86400)/\0<=l.2.2/\l.2.2<0xde0b6b3a7640000
instance (l:Int×Int×Int):Decidable (I1 l):=inferInstanceAs (Decidable (_/\_))
abbrev Fw (r:Rs):Prop:=(-0x8000000000000000<=r.1/\r.1<0x8000000000000000)/\(-0x80000000000000000000000000000000<=r.2.1/\r.2.1<0x80000000000000000000000000000000)/\lI r.2.2
def nO:bC:=⟨0,3000000000,[(2272060800,10),(2287785600,11)]⟩
theorem aFz:bV.p nO:=by simp [nO,pE,bD]
theorem aD4:dG nO:=by decide +kernel
theorem aEb:sI nO.es (oR nO.es) nO.x ⟨2,5,3,0,(41498,86400,5),0,false,0,0,0,.r .u8 [],0,0,(0,0,0)⟩=(0,-0xc42e4787b42e290883fffb,0,0,0):=by decide +kernel
theorem aHu:sI nO.es (oR nO.es) nO.x ⟨2,3,5,-0xc42e4787b42e290883fffb,(0,0,0),0,false,0,0,0,.r .u8 [],0,0,(0,0,0)⟩=(0,0,41498,86400,5):=by decide +kernel
abbrev aKD:=s0 (.o (bv true))
theorem aMY:Ok Tryz.prog 10 aKD:=Vy (aG Tryz.func10 Fx.ent Fx.aA (aB M0 (aB Y4 aH))) ⟨0,by
 have hp:=aFz
 have hm:=aD4
 have hT:=Rf hp hm
 have hv:Ft (.g [.v (.int .i64 0),.v (.int .i64 3000000000),.q 2 [.v (.int .i64 2272060800),.v (.int .i64 10),.v (.int .i64 2287785600),.v (.int .i64 11)]])=true:=(bV.enc hp).1
 have ht:Hi (.g [.v (.int .i64 0),.v (.int .i64 3000000000),.q 2 [.v (.int .i64 2272060800),.v (.int .i64 10),.v (.int .i64 2287785600),.v (.int .i64 11)]])=nO:=(bV.enc hp).2
 have hc:=U0 hp
 have v1:=kC hc
 have v2:=jX hc
 have a1:=aEb
 have a2:=aHu
 have hr:fS ⟨51,2,none⟩ 2 [.v (.int .i64 2272060800),.v (.int .i64 10),.v (.int .i64 2287785600),.v (.int .i64 11)] = .q 2 [.v (.int .i64 2272060800),.v (.int .i64 10),.v (.int .i64 2287785600),.v (.int .i64 11)]:=by kernel_rfl
 have hO:oR nO.es=some qU:=by unfold oR;rw [if_pos (by decide +kernel)]
 have hX:nO.x=3000000000:=rfl
 rw [hO,hX] at v1 v2 a1 a2
 generalize nO=t at *
 generalize qU=R at *
 simp only [aF] at v1 v2
 simp [-N9,-C5,Fx.c,hr,hv,ht,hm,gG,aK,hO,aF,aN,hT,v1,v2,a1,a2,hX]⟩
end Go.Proofs.YtfcbohachbeamaaGreatDoor.E
end
section
namespace Go.Proofs.YtfcbohachbeamaaGreatDoor.E
open Go.VC Go.RowKit
section
variable {es:List En} {o:Option (List Pc)} {X:Int}
theorem aIL {l:Int×Int×Int} : eX es o X true l=if (cT es o l).2=0 then ((cT es o l).1,0) else (0,(cT es o l).2):=by
 unfold eX
 simp
theorem aKd {t:Int} : kB es o X true t=if (cL es o t).2=0 then ((cL es o t).1,0) else ((0,0,0),(cL es o t).2):=by
 unfold kB
 simp
theorem nz5 : ¬ iH 5:=by decide
theorem aCb {p n:Int} {l:Int×Int×Int} : iA es o X (p,true) (5,n,l)=if (cT es o l).2=0 then ((cT es o l).1,0) else (0,(cT es o l).2):=by
 unfold iA
 dsimp only
 rw [if_neg nz5,if_pos rfl]
 exact aIL
theorem aSx {p n:Int} {x y:Int×Int×Int} : df es o X (p,true) (5,n,x) y =
 if (cT es o x).2=0 then (if (cT es o y).2=0 then (if -0x80000000000000000000000000000000<=(cT es o y).1-(cT es o x).1/\(cT es o y).1-(cT es o x).1<0x80000000000000000000000000000000 then (0,(cT es o y).1-(cT es o x).1,0,0,0) else (2,0,0,0,0)) else ((cT es o y).2,0,0,0,0)) else ((cT es o x).2,0,0,0,0):=by
 unfold df
 rw [aCb]
 dsimp only
 rw [aIL]
 by_cases h1:(cT es o x).2=0
 ·by_cases h2:(cT es o y).2=0<;>simp [h1,h2]
 ·simp [h1]
theorem aSi {p t:Int} : an es o X (p,true) t 5=if (cL es o t).2=0 then ((5,0,(cL es o t).1),0) else ((0,0,0,0,0),(cL es o t).2):=by
 unfold an
 rw [if_neg nz5,if_pos (.inl rfl)]
 dsimp only
 rw [aKd]
 by_cases h:(cL es o t).2=0
 ·simp [h,rZ]
 ·simp [h]
theorem aR7 {p n s:Int} {x:Int×Int×Int} : ad es o X (p,true) (5,n,x) s =
 if (cT es o x).2=0 then (if -0x80000000000000000000000000000000<=(cT es o x).1+s/\(cT es o x).1+s<0x80000000000000000000000000000000 then (if (cL es o ((cT es o x).1+s)).2=0 then (0,0,(cL es o ((cT es o x).1+s)).1) else ((cL es o ((cT es o x).1+s)).2,0,0,0,0)) else (2,0,0,0,0)) else ((cT es o x).2,0,0,0,0):=by
 unfold ad
 rw [aCb]
 dsimp only
 by_cases h1:(cT es o x).2=0
 ·simp only [h1,if_true]
  by_cases h2 : -0x80000000000000000000000000000000<=(cT es o x).1+s/\(cT es o x).1+s<0x80000000000000000000000000000000
  ·rw [if_pos h2,if_pos h2,aSi]
   by_cases h3:(cL es o ((cT es o x).1+s)).2=0<;>simp [h3,sd]
  ·rw [if_neg h2,if_neg h2]
 ·simp [h1]
theorem aSz (hk:Tb.Tk es) {x:Int×Int×Int} {s:Int} (hs : -0x80000000000000000000000000000000<s/\s<0x80000000000000000000000000000000) (hx:Tb.D es 0<=x.1) (h1:(ad es (oR es) X (0,true) (5,0,x) s).1=0) (hy:Tb.D es 0<=(ad es (oR es) X (0,true) (5,0,x) s).2.2.1) :
 ad es (oR es) X (0,true) (5,0,(ad es (oR es) X (0,true) (5,0,x) s).2.2) (-s)=(0,0,x)/\df es (oR es) X (0,true) (5,0,x) (ad es (oR es) X (0,true) (5,0,x) s).2.2=(0,s,0,0,0):=by
 have bx:=aSC hk x
 have e1:ad es (oR es) X (0,true) (5,0,x) s=_:=aR7
 rw [e1] at h1 hy ⊢
 by_cases q1:(cT es (oR es) x).2=0
 ·by_cases q2 : -0x80000000000000000000000000000000<=(cT es (oR es) x).1+s/\(cT es (oR es) x).1+s<0x80000000000000000000000000000000
  ·by_cases q3:(cL es (oR es) ((cT es (oR es) x).1+s)).2=0
   ·simp only [q1,q2,q3,if_true,and_self] at hy ⊢
    have h5:cL es (oR es) ((cT es (oR es) x).1+s)=((cL es (oR es) ((cT es (oR es) x).1+s)).1,0):=by rw [← q3]
    obtain ⟨r1,r2⟩:=aSc hk hx q1 h5 hy
    rw [aR7,aSx,r1]
    dsimp only
    have e2:(cT es (oR es) x).1+s + -s=(cT es (oR es) x).1:=by omega
    have e3:(cT es (oR es) x).1+s-(cT es (oR es) x).1=s:=by omega
    rw [e2,e3,r2]
    have f1 : -0x80000000000000000000000000000000<=(cT es (oR es) x).1/\(cT es (oR es) x).1<0x80000000000000000000000000000000:=by omega
    have f2 : -0x80000000000000000000000000000000<=s/\s<0x80000000000000000000000000000000:=by omega
    simp [f1,f2,q1]
   ·simp only [q1,q2,q3,if_true,if_false,and_self] at h1
  ·rw [if_pos q1,if_neg q2] at h1
   exact absurd h1 (by decide)
 ·rw [if_neg q1] at h1
  exact absurd h1 q1
end
end Go.Proofs.YtfcbohachbeamaaGreatDoor.E
end
section
namespace Go.Proofs.YtfcbohachbeamaaGreatDoor.E
open Go.VC Go.RowKit
section
variable {es:List En} {o:Option (List Pc)} {X:Int}
end
end Go.Proofs.YtfcbohachbeamaaGreatDoor.E
end
section
namespace Go.Proofs.YtfcbohachbeamaaGreatDoor.E
open Go.VC Go.RowKit
theorem C1 {m:Mo×Int} (h:nU.p m.1/\0<=m.2/\m.2<=12):Fw (sd m):=by
 obtain ⟨⟨h1,h2,h3⟩,h4⟩:=h
 unfold sd
 split
 ·exact ⟨by simp,h2,h3⟩
 ·exact ⟨by dsimp only;omega,by simp,by simp⟩
theorem Ge {e:Int} (h:0<=e/\e<=12):Fw (e,0,0,0,0):=⟨by dsimp only;omega,by simp,by simp⟩
theorem aQn (es:List En) (hk:Tb.Tk es) (o:Option (List Pc)) (n p:Int):0<=(xF es o n p).2/\(xF es o n p).2<=12:=by
 obtain ⟨-,-,h⟩:=n7 es hk o n
 unfold xF
 split
 ·split
  ·simp
  ·split<;>simp
 ·exact h
theorem aJr {es:List En} (hk:Tb.Tk es) (o:Option (List Pc)) (x:Int) (w:Int×Bool) (m:Mo):0<=(iA es o x w m).2/\(iA es o x w m).2<=12:=by
 have hU : ∀ n,0<=(iU es o x w n).2/\(iU es o x w n).2<=12:=fun n=>by
  unfold iU
  split
  ·exact (Hn hk o x w.2 _).2
  ·exact aQn es hk o n w.1
 unfold iA
 split
 ·split<;>simp
 ·split
  ·exact (Hn hk o x w.2 _).2
  ·split
   ·exact hU _
   ·split
    ·unfold iN
     split
     ·exact hU _
     ·simp
    ·split
     ·unfold iS
      split
      ·split
       ·simp
       ·exact Yj es o x w.2 _
      ·exact aQb es _
     ·simp
theorem Wg {es:List En} (hk:Tb.Tk es) (o:Option (List Pc)) (x:Int) {r:Rq} (hr:Cv.p r):Fw (sI es o x r):=by
 obtain ⟨p0,p1,p2,p3,p4,p5,p7,p8,p9,pQ,p11,p12,p13⟩:=hr
 have he:=aJr hk o x (r.pick,r.lax) (r.sc,r.n,r.l)
 unfold sI
 split
 ·unfold cv
  split
  ·exact C1 (Qe hk o x _ _ p2)
  ·exact Ge he
 ·split
  ·unfold ad
   split
   ·split
    ·exact C1 (Qe hk o x _ _ p1)
    ·exact Ge (by decide)
   ·exact Ge he
  ·unfold df
   split
   ·split
    ·split
     ·rename_i h
      exact ⟨by simp,h,by simp⟩
     ·exact Ge (by decide)
    ·exact Ge (Hn hk o x _ _).2
   ·exact Ge he
end Go.Proofs.YtfcbohachbeamaaGreatDoor.E
end
section
namespace Go.Proofs.YtfcbohachbeamaaGreatDoor.E
open Go.VC Go.RowKit
end Go.Proofs.YtfcbohachbeamaaGreatDoor.E
end
section
namespace Go.Proofs.YtfcbohachbeamaaGreatDoor.E
open Go.VC Go.RowKit
noncomputable abbrev o0:=s3 bV dV bN lB fun _ _ _=> .o (bv true)
theorem aSF:Ok Tryz.prog 5 o0:=yK (aG Tryz.func5 gB.ent gB.aA (aB aEN (aB aSy (aB aMY (aB M0 (aB Y4 aP2)))))) (by simp [gB.c]) fun t x st ht hx hs _=>by
 have hp:=ht
 have hck:=U0 hp
 obtain ⟨q1,q2,q3⟩:=ht
 have hi:bD t.u/\bD t.x:=⟨q1,q2⟩
 obtain ⟨d1,s1',a1⟩:=x
 simp at hx hs
 refine ⟨0,?_⟩
 by_cases hm:dG t
 ·have hT:=Rf hp hm
  have hk:=iE hT
  by_cases hd:Tb.D t.es 0<=d1
  ·by_cases hst:st = -0x80000000000000000000000000000000
   ·have w1:aQ st = -0x8000000000000000:=by rw [hst];rfl
    have w2:aT st=0:=by rw [hst];rfl
    simp [gB.c,q1,q2,q3,hm,hx,hs,hd,w1,w2]
    all_goals exact hi
   ·have hne : ¬ (aQ st = -0x8000000000000000/\aT st=0):=by
     rintro ⟨h1,h2⟩
     apply hst
     have:=Nf st
     rw [h1,h2] at this
     omega
    have hne':aQ st = -0x8000000000000000 -> ¬ aT st=0:=fun h1 h2=>hne ⟨h1,h2⟩
    have hs' : -0x80000000000000000000000000000000<st/\st<0x80000000000000000000000000000000:=by omega
    have hlaw:=fun h1 h2=>aSz (X:=t.x) hk (x:=(d1,s1',a1)) (s:=st) hs' hd h1 h2
    have v1:=kC hck
    have v2:=jX hck
    obtain ⟨ra,hA⟩ : ∃ r,sI t.es (oR t.es) t.x ⟨5,5,0,0,(d1,s1',a1),0,true,0,0,0,.r .u8 [],0,st,(0,0,0)⟩=r:=⟨_,rfl⟩
    have gA:Fw ra:=hA ▸ Wg hk _ _ (by simp [hs,AC.known,AP.free];exact hx)
    have eA:ad t.es (oR t.es) t.x (0,true) (5,0,d1,s1',a1) st=ra:=by rw [← hA];rfl
    rw [eA] at hlaw
    clear eA
    obtain ⟨ea,na,d2,s2',a2⟩:=ra
    obtain ⟨ga1,ga2,ga3⟩:=gA
    dsimp only at *
    have ms:=Va (Rh hs)
    have ms':cJ (-st):=by unfold cJ;omega
    have f1 : -0x80000000000000000000000000000000 <= -st /\ -st<0x80000000000000000000000000000000:=by omega
    by_cases h1:ea=0
    ·by_cases h2:Tb.D t.es 0<=d2
     ·obtain ⟨l1,l2⟩:=hlaw h1 h2
      have hB:sI t.es (oR t.es) t.x ⟨5,5,0,0,(d2,s2',a2),0,true,0,0,0,.r .u8 [],0,-st,(0,0,0)⟩=(0,0,d1,s1',a1):=l1
      have hC:sI t.es (oR t.es) t.x ⟨6,5,0,0,(d1,s1',a1),0,true,0,0,0,.r .u8 [],0,0,(d2,s2',a2)⟩=(0,st,0,0,0):=l2
      generalize hO:oR t.es=o at *
      cases o<;>simp only [aF] at v1 v2<;>simp [gB.c,q1,q2,q3,hm,aN,hT,v1,v2,gG,aK,hO,aF,hx,hs,hd,hne,hne',hA,hB,hC,h1,h2,ga3,ms,ms',f1]
      all_goals exact hi
     ·generalize hO:oR t.es=o at *
      cases o<;>simp only [aF] at v1 v2<;>simp [gB.c,q1,q2,q3,hm,aN,hT,v1,v2,gG,aK,hO,aF,hx,hs,hd,hne,hne',hA,h1,h2,ga3]
      all_goals exact hi
    ·generalize hO:oR t.es=o at *
     cases o<;>simp only [aF] at v1 v2<;>simp [gB.c,q1,q2,q3,hm,aN,hT,v1,v2,gG,aK,hO,aF,hx,hs,hd,hne,hne',hA,h1,ga3]
     all_goals exact hi
  ·simp [gB.c,q1,q2,q3,hm,hx,hs,hd]
   all_goals exact hi
 ·simp [gB.c,q1,q2,q3,hm]
  exact hi
end Go.Proofs.YtfcbohachbeamaaGreatDoor.E
end
section
namespace Go.Proofs.YtfcbohachbeamaaGreatDoor.E
open Go.VC Go.RowKit
end Go.Proofs.YtfcbohachbeamaaGreatDoor.E
end
section
namespace Go.Proofs.YtfcbohachbeamaaGreatDoor.E
open Go.VC Go.RowKit Go.ChangeShapes Go.WideShapes Go.ChangeAt Go.Joins
variable {H:Type} {enc:TypeId×Value->H} {W:World} {b0:Nat} {held:Bool} {d:DataW H} {p:List MemPlace}
theorem O1 {b o n len:Nat} {xs:List (DataW H×List MemPlace)} (hn:xs.length=len) (hel : ∀ i,i<len->(W.cells? 0 (Addr.add ⟨b,o,none⟩ (i*2)) 2).bind (DataW.trod enc Tryz.prog W 0 (fun _=>true) held n 51)=xs[i]?) :
 ∀ m k,k+m=len -> ∃ es:List En,es.length=m/\pE es /\ ∀ j x,(bR es)[j]? = some x->W.cell? ⟨b,o+(k*2+j),none⟩=some x
 | 0,k,_=>⟨[],rfl,trivial,fun j x h=>by cases h⟩
 | m+1,k,hk=>by
  obtain ⟨es,h1,h2,h3⟩:=O1 hn hel m (k+1) (by omega)
  have h:=hel k (by omega)
  rw [List.getElem?_eq_getElem (show k<xs.length by omega)] at h
  simp only [Option.bind_eq_some_iff] at h
  obtain ⟨cs,hc,ht⟩:=h
  obtain ⟨_,hl,hcell⟩:=World.cells?_some hc
  obtain ⟨y0,y1,m',-,-,k0,k1⟩:=trod_struct2 Tryz.underlying51 ht
  match cs,hl with
  | [c0,c1],_=>
  obtain ⟨a0,e0,-,w0⟩:=DataW.trod_int Tryz.underlying3 k0
  obtain ⟨a1,e1,-,w1⟩:=DataW.trod_int Tryz.underlying3 k1
  have c3:Tryz.prog.cellsOf 3=1:=by kernel_rfl
  simp [c3] at e0 e1
  subst e0 e1
  have q0:=hcell 0 (by omega)
  have q1:=hcell 1 (by omega)
  have r0:=bounds_i64 w0
  have r1:=bounds_i64 w1
  have ad : ∀ {x y:Nat},(⟨b,x,none⟩:Addr).add y=⟨b,x+y,none⟩:=fun {x y} => by unfold Addr.add;split<;>simp_all
  rw [ad,ad] at q0 q1
  refine ⟨(a0,a1)::es,by simp [h1],⟨?_,?_,h2⟩,fun j x hx=> ?_⟩
  ·unfold bD;dsimp only;omega
  ·unfold bD;dsimp only;omega
  ·match j,hx with
   | 0,hx=>cases hx;simpa using q0
   | 1,hx=>
    cases hx
    rw [show o+(k*2+1)=o+k*2+1 by omega]
    simpa using q1
   | j+2,hx=>
    have:=h3 j x hx
    rw [show o+(k*2+(j+2))=o+((k+1)*2+j) by omega]
    exact this
theorem aGE {A:Option Addr} {len cap fuel:Nat} {x:DataW H×List MemPlace} (hv:Cell.okWide Tryz.prog W .any b0 22 (.slice A len cap)) (h:DataW.trod enc Tryz.prog W 0 (fun _=>true) held fuel 22 [.slice A len cap]=some x) :
 ∃ es:List En,pE es/\nY (fun _=>False) W 2 (.slice A len cap) (qE es):=by
 rcases DataW.trod_slice Tryz.underlying22 h with ⟨hcs,_⟩ | ⟨a,l,c,xs,rest,n,-,hcs,-,-,hl,-,hlen,hel,-⟩
 ·simp only [List.cons.injEq,Value.slice.injEq,and_true] at hcs
  obtain ⟨rfl,rfl,rfl⟩:=hcs
  exact ⟨[],trivial,.inl ⟨rfl,rfl⟩⟩
 ·simp only [List.cons.injEq,Value.slice.injEq,and_true] at hcs
  obtain ⟨rfl,rfl,rfl⟩:=hcs
  have c51:Tryz.prog.cellsOf 51=2:=by kernel_rfl
  rw [c51] at hel
  simp only [Cell.okWide,Cell.ok,Tryz.underlying22] at hv
  obtain ⟨_,_,_,hsp,row,cells,hsh,_⟩:=hv
  obtain ⟨b,o,sp⟩:=a
  simp only at hsp hsh
  subst hsp
  have hb:b<W.heap.size:=by
   unfold World.shape? at hsh
   rcases Nat.lt_or_ge b W.heap.size with h | h
   ·exact h
   ·rw [Array.getElem?_eq_none (by omega)] at hsh;cases hsh
  obtain ⟨es,h1,h2,h3⟩:=O1 hlen hel len 0 (by omega)
  refine ⟨es,h2,.inr ⟨b,o,len,cap,rfl,by rw [iC,h1],hl,fun h=>h,hb,fun j cc hj=> ?_⟩⟩
  rw [Ja,List.getElem?_map] at hj
  cases hv:(bR es)[j]? with
  | none=>rw [hv] at hj;cases hj
  | some y=>
   rw [hv] at hj
   cases hj
   have:=h3 j y hv
   rw [Nat.zero_mul,Nat.zero_add] at this
   exact ⟨y,this,rfl,Jl es y (List.mem_of_getElem? hv)⟩
theorem aLx {v:Value} (hv:Value.okWide Tryz.prog W .any b0 24 v) (h:DataW.Trod enc Tryz.prog W 0 (fun _=>true) held 24 v d p) :
 ∃ (t:bC) (sv':Value),v = .agg #[.int .i64 t.u,.int .i64 t.x,sv']/\bV.p t/\nY (fun _=>False) W 2 sv' (qE t.es):=by
 obtain ⟨cs,rfl,hsz,ts,hts,_,hcell⟩ : ∃ cs,v = .agg cs/\cs.size=Tryz.prog.cellsOf 24/\Row.okWide Tryz.prog W .any b0 24 cs:=by
  have:=hv
  unfold Value.okWide at this
  rw [Tryz.underlying24] at this
  exact this
 have c24:Tryz.prog.cellsOf 24=3:=by kernel_rfl
 rw [c24] at hsz
 obtain ⟨x0,x1,x2,rfl⟩ : ∃ x0 x1 x2,cs = #[x0,x1,x2]:=by
  obtain ⟨l⟩:=cs
  match l,hsz with
  | [x0,x1,x2],_=>exact ⟨x0,x1,x2,rfl⟩
 have hts':Tryz.prog.cellTypes Tryz.prog.depth 24=some [3,3,22]:=by kernel_rfl
 rw [hts'] at hts
 cases hts
 obtain ⟨u,hu,hk⟩:=hcell 2 x2 rfl
 cases hu
 obtain ⟨fuel,hf⟩:=h
 obtain ⟨xs,n,-,-,-,hxl,hff⟩:=DataW.trod_struct Tryz.underlying24 hf
 have c3:Tryz.prog.cellsOf 3=1:=by kernel_rfl
 have c22:Tryz.prog.cellsOf 22=1:=by kernel_rfl
 match xs,hxl with
 | [y0,y1,y2],_=>
 have k0:DataW.trod enc Tryz.prog W 0 (fun _=>true) held n 3 (([x0,x1,x2].drop 0).take (Tryz.prog.cellsOf 3))=some y0:=hff 0 _ rfl
 have k1:DataW.trod enc Tryz.prog W 0 (fun _=>true) held n 3 (([x0,x1,x2].drop 1).take (Tryz.prog.cellsOf 3))=some y1:=hff 1 _ rfl
 have k2:DataW.trod enc Tryz.prog W 0 (fun _=>true) held n 22 (([x0,x1,x2].drop 2).take (Tryz.prog.cellsOf 22))=some y2:=hff 2 _ rfl
 rw [c3] at k0 k1
 rw [c22] at k2
 simp only [List.drop_zero,List.drop_succ_cons,List.take_succ_cons,List.take_zero] at k0 k1 k2
 obtain ⟨a0,e0,-,w0⟩:=DataW.trod_int Tryz.underlying3 k0
 obtain ⟨a1,e1,-,w1⟩:=DataW.trod_int Tryz.underlying3 k1
 simp at e0 e1
 subst e0 e1
 have r0:=bounds_i64 w0
 have r1:=bounds_i64 w1
 have hx2 : ∃ A len cap,x2 = .slice A len cap:=by
  rcases DataW.trod_slice Tryz.underlying22 k2 with ⟨h1,_⟩ | ⟨a,l,c,_,_,_,_,h1,_⟩
  ·exact ⟨none,0,0,by simpa using h1⟩
  ·exact ⟨_,_,_,by simpa using h1⟩
 obtain ⟨A,len,cap,rfl⟩:=hx2
 obtain ⟨es,h1,h2⟩:=aGE hk k2
 exact ⟨⟨a0,a1,es⟩,_,rfl,⟨by unfold bD;dsimp only;omega,by unfold bD;dsimp only;omega,h1⟩,h2⟩
theorem aSe {v:Value} (hv:Value.okWide Tryz.prog W .any b0 34 v) (h:DataW.Trod enc Tryz.prog W 0 (fun _=>true) held 34 v d p) :
 ∃ x y z:Int,v = .agg #[.int .i64 x,.int .i64 y,.int .i64 z]/\dV.p (x,y,z):=by
 obtain ⟨c0,c1,c2,y0,y1,y2,m,rfl,-,-,h0,h1,h2⟩:=open_agg3 Tryz.underlying34 (by kernel_rfl) (by kernel_rfl) hv h
 obtain ⟨a0,e0,-,w0⟩:=DataW.trod_int Tryz.underlying3 h0
 obtain ⟨a1,e1,-,w1⟩:=DataW.trod_int Tryz.underlying3 h1
 obtain ⟨a2,e2,-,w2⟩:=DataW.trod_int Tryz.underlying3 h2
 simp at e0 e1 e2
 subst e0 e1 e2
 have r0:=bounds_i64 w0
 have r1:=bounds_i64 w1
 have r2:=bounds_i64 w2
 exact ⟨a0,a1,a2,rfl,by dsimp only;omega,by dsimp only;omega,by dsimp only;omega⟩
theorem aR2 {v:Value} (hv:Value.okWide Tryz.prog W .any b0 27 v) (h:DataW.Trod enc Tryz.prog W 0 (fun _=>true) held 27 v d p) :
 ∃ n:Int,v = .agg #[.int .i64 (aQ n),.int .u64 (aT n)]/\bN.p n:=by
 obtain ⟨c0,c1,y0,y1,m,rfl,-,-,h0,h1⟩:=open_agg2 Tryz.underlying27 (by kernel_rfl) (by kernel_rfl) hv h
 obtain ⟨a0,e0,-,w0⟩:=DataW.trod_int Tryz.underlying2 h0
 obtain ⟨a1,e1,-,w1⟩:=DataW.trod_int Tryz.underlying25 h1
 simp at e0 e1
 subst e0 e1
 have r0:=bounds_i64 w0
 have r1:=bounds_u64 w1
 refine ⟨a0*0x10000000000000000+a1,?_,?_⟩
 ·have q0:aQ (a0*0x10000000000000000+a1)=a0:=by unfold aQ;omega
  have q1:aT (a0*0x10000000000000000+a1)=a1:=by unfold aT;omega
  rw [q0,q1]
 ·show -0x80000000000000000000000000000000<=_/\_<0x80000000000000000000000000000000
  omega
theorem aRw {W:World} (hs:W.ShapedOpen Tryz.prog) (hl:laidMetH Tryz.prog Rows.wholeDiffsRow.laid W):aZ W:=by
 have hg : ∀ g zero t,g<Tryz.prog.globals.size->((begin Tryz.prog (fun _ _=>0) default).world.heap[g]?).bind Obj.row? = some (zero,t) -> ∃ cs,W.heap[g]? = some (.cells cs t)/\cs.size=zero.size/\(Tryz.prog.buildable t=true->Row.ok Tryz.prog W .any 0 t cs):=hs.1
 have z0:((begin Tryz.prog (fun _ _=>0) default).world.heap[0]?).bind Obj.row? = some (#[.int .i64 0],3):=by kernel_rfl
 have gs:Tryz.prog.globals.size=11:=by kernel_rfl
 rw [gs] at hg
 obtain ⟨c0,h0,hsz,hok⟩:=hg 0 _ _ (by decide) z0
 obtain ⟨ts,hts,-,hcell⟩:=hok (by kernel_rfl)
 have hts':Tryz.prog.cellTypes Tryz.prog.depth 3=some [3]:=by kernel_rfl
 rw [hts'] at hts
 cases hts
 have hsz:c0.size=1:=hsz
 obtain ⟨v0,rfl⟩ : ∃ v0,c0 = #[v0]:=by
  obtain ⟨l⟩:=c0
  match l,hsz with
  | [v0],_=>exact ⟨v0,rfl⟩
 obtain ⟨u,hu,hk⟩:=hcell 0 v0 rfl
 cases hu
 obtain ⟨m,rfl⟩ : ∃ m,v0 = .int .i64 m:=by
  simp only [Cell.ok,Tryz.underlying3] at hk
  split at hk<;>simp_all
 have hs2 : ∀ k,Tryz.prog.globals.size<=k->k<(begin Tryz.prog (fun _ _=>0) default).world.heap.size -> ∃ o o₀,W.heap[k]? = some o/\(begin Tryz.prog (fun _ _=>0) default).world.heap[k]? = some o₀ /\ (if World.looseAt (k-Tryz.prog.globals.size)=true then o.alike o₀ else o=o₀):=hs.2
 obtain ⟨o11,-,h11,-⟩:=hs2 11 (by rw [gs];decide) (of_decide_eq_true (by kernel_rfl))
 have h12:=(Array.getElem?_eq_some_iff.1 h11).1
 refine ⟨by unfold NG;omega,⟨m,?_⟩,?_⟩
 ·unfold World.cell?
  rw [h0]
  rfl
 ·rw [MakeChecks.laidMetH_plain _ _ _ (by kernel_rfl)] at hl
  obtain ⟨ps,⟨_,_,_,_,_,_,_,_,_,_,⟨_,_,_,_,_,_,_,_,_,_,⟨g,t,cs,f,p,q,hg5,ht5,hv5,hd5,-⟩,_⟩,_⟩,_⟩:=hl
  have hg5':Tryz.prog.globalNamed "internal/strconv.uint64pow10" = some 5:=by kernel_rfl
  rw [hg5'] at hg5
  cases hg5
  have ht5':Option.map (fun x=>x.type) Tryz.prog.globals[5]? = some 369:=by kernel_rfl
  rw [ht5'] at ht5
  cases ht5
  obtain ⟨tt,pp,h5⟩ : ∃ tt pp,W.heap[5]? = some (.cells cs tt pp):=by
   simp only [World.var?,hg5',Option.bind_some] at hv5
   split at hv5<;>simp_all
  refine ⟨tt,pp,?_⟩
  rw [h5]
  congr 2
  obtain ⟨xs,m1,-,hx1,hlen,hn3,hel⟩:=DataW.trod_array Tryz.underlying369 hd5
  have c25:Tryz.prog.cellsOf 25=1:=by kernel_rfl
  have c369:Tryz.prog.cellsOf 369=20:=by kernel_rfl
  have hL:Rows.laid_internal_strconv_uint64pow10=(DataW.agg ((List.range 20).map fun i=>DataW.lit (Lit.int .u64 ((10 ^ i:Nat):Int))):DataW Unit):=by kernel_rfl
  rw [hL] at hx1
  simp only [Prod.mk.injEq,DataW.agg.injEq] at hx1
  rw [c369] at hlen
  apply Array.ext'
  show cs.toList=((List.range 20).map fun i=>Value.int .u64 ((10 ^ i:Nat):Int))
  apply List.ext_getElem?
  intro i
  by_cases hi:i<20
  ·have h1:=hel i hi
   rw [c25,Nat.mul_one] at h1
   rw [List.getElem?_eq_getElem (show i<xs.length by omega)] at h1
   obtain ⟨n,e1,e2,-⟩:=DataW.trod_int Tryz.underlying25 h1
   have h2:(xs.map (·.1))[i]? = some (DataW.lit (Lit.int .u64 n)):=by
    rw [List.getElem?_map,List.getElem?_eq_getElem (show i<xs.length by omega),e2];rfl
   rw [← hx1.1,List.getElem?_map,List.getElem?_range hi] at h2
   simp only [Option.map_some,Option.some.injEq,DataW.lit.injEq,Lit.int.injEq,true_and] at h2
   have h3:cs.toList[i]? = some (.int .u64 n):=by
    have:=congrArg (fun l:List Value=>l[0]?) e1
    simpa [List.getElem?_take,List.getElem?_drop] using this
   rw [h3,List.getElem?_map,List.getElem?_range hi,← h2]
   rfl
  ·rw [List.getElem?_eq_none (by omega),List.getElem?_eq_none (by simp;omega)]
theorem aGi {a:Assume} {C:Checked} {os:Os} {f:FuncId} {fn:Func} {s:ChangeSpec} {conds:List PathCond} {apart fresh handsOn again:Bool} {X:World->Array Value->Prop}
 (hX : ∀ (w w':World) (args:Array Value),w.heap=w'.heap->X w args->X w' args)
 (own:ownKnob C.prog.godebug=none) (started:os.Started) (noInit:C.prog.inits.idxOf? f=none) (hfn:C.prog.funcs[f]? = some fn)
 (witness : ∃ (w:World) (tape:Tape) (i:Input),w.os=os/\(w.forCall tape i).Shaped C.prog/\i.vars = []/\Input.okWide C.prog (w.forCall tape i) .any w.heap.size f i /\
  ((s.pre enc C.prog fn conds apart (w.forCall tape i).memory i.args/\X (w.forCall tape i).memory i.args)/\sizedMet enc C.prog fn (OpenSpec.ofChange s) apart (w.forCall tape i).memory i.args)/\a.holds C.prog (lone (Frame.enter C.prog f i.args .normal) [] (w.forCall tape i)))
 (contract : ∀ (W:World) (base:Nat) (args:Array Value) (ds gs:List (DataW H)) (before:List MemPlace),
  (∀ (j:Nat) t v,fn.params[j]? = some t->args[j]? = some v->Value.okWide C.prog W .any base t v) ->
  DataW.Whole enc C.prog fn.params.toList s.vars apart W args.toList ds gs before->X W args->W.ShapedOpen C.prog ->
  Calls C.prog f args W fun e W'=> ∃ v,e = .returned v/\s.post enc C.prog fn apart fresh handsOn again W args v W') :
 ReturnsInHanded a C os f .any (fun w args=>(s.pre enc C.prog fn conds apart w args/\X w args)/\sizedMet enc C.prog fn (OpenSpec.ofChange s) apart w args) (s.post enc C.prog fn apart fresh handsOn again):=by
 refine returnsInHanded_of_calls own started noInit witness ?_
 intro w tape i _ hso _ hok hpre hholds
 obtain ⟨_,_,_,fn',hfn',_,_,_,_,hval⟩:=hok
 have e:fn'=fn:=Option.some.inj (hfn'.symm.trans hfn)
 subst e
 obtain ⟨⟨⟨ds,gs,before,hw,hc⟩,hx⟩,hz⟩:=hpre
 have hw':=DataW.Whole.of_heap (w':=w.forCall tape i) (by rfl) hw
 refine (contract (w.forCall tape i) w.heap.size i.args ds gs before hval hw' (hX _ _ _ (by rfl) hx) hso).mono fun e W' ⟨v,he,hp⟩=> ?_
 subst he
 exact ChangeSpec.post_blind hp
theorem aMq {f:Nat} {s:List AP->Option AV} (h:Ok Tryz.prog f s) (ent:Enters Tryz.prog f) {xs:List AP} (hs:s xs=some (.o (bv true))) {w:World} {vs:List Value} (G:aZ w) (hrep:cP ⟨fun _=>False,fun _=>0,fun _=>False⟩ w xs vs) :
 Calls Tryz.prog f vs.toArray w fun e w'=>e = .returned (.bool true)/\Below w.heap.size w w':=
 (Z9 h hs ent (fun t n h=>by cases h) rfl G (fun _=>False) (fun _ h=>h.elim) hrep hrep).mono fun e w' ⟨v,he,hv,hb⟩=>by
  subst he
  exact ⟨by rw [hv.1],hb⟩
end Go.Proofs.YtfcbohachbeamaaGreatDoor.E
end
