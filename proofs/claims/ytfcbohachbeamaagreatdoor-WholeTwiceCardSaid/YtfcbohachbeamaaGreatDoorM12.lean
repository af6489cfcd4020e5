/- What the laws' code answers: part 12 of what the rows of this seat lean on. -/
import Derived.Test.YtfcbohachbeamaaGreatDoorM11
import Derived.Lib.Atoi
import Derived.Lib.ItoaNum
import Derived.Lib.SlTrimSet
import Derived.Test.YtfcbohachbeamaaGreatDoorM10
import Derived.Maps.OwnSet
import Derived.Maps.OwnOps
import Derived.WalkKit
import Derived.WalkSpells
import Derived.BigQuiet
import Derived.Deep.AppendLies
import Derived.Deep.RegionLaw
import Derived.BigRegion
import Derived.StillTailTactics
set_option linter.unusedVariables false
set_option linter.unusedSimpArgs false
set_option maxHeartbeats 8000000
set_option maxRecDepth 100000
section
namespace Go.Proofs.YtfcbohachbeamaaGreatDoor.E
open Go.VC Go.RowKit
def nF:List En->List (List UInt8)
 | []=> []
 | e::r=>Lib.itoa e.1::Lib.itoa e.2::nF r
def pK (t:bC):List (List UInt8):=Lib.itoa t.u::Lib.itoa t.x::nF t.es
def jZ (t:bC):List UInt8:=(pK t).flatten
theorem Yy : ∀ l,(nF l).length=l.length*2
 | []=>rfl
 | e::r=>by simp [nF,Yy r];omega
theorem lX {n:Int} (h:bD n):(Lib.itoa n).length<=21:=Lib.itoa_length_le n h.1 (by have:=h.2;omega)
theorem S6 : ∀ {l},pE l->(nF l).flatten.length<=l.length*42
 | [],_=>by simp [nF]
 | e::r,h=>by
  have h1:=lX h.1
  have h2:=lX h.2.1
  have h3:=S6 h.2.2
  simp [nF] at h3 ⊢;omega
theorem Df {t:bC} (h:dG t):t.es.length<=64:=by
 have:=aAh h.1 (by decide)
 simpa using this
abbrev aJj:=s1 bV dG fun t=> .o (.c (.q 1 (qS (pK t))))
theorem aBO:Ok Tryz.prog 154 aJj:=cA (aG Tryz.func154 qP.ent qP.aA (aB aPp aH)) (by simp [qP.c]) fun t ht hm=>by
 have hlen:=Df hm
 obtain ⟨u,x,es⟩:=t
 obtain ⟨⟨u1,u2⟩,⟨x1,x2⟩,hes⟩:=ht
 simp only at u1 u2 x1 x2 hes hlen
 clear hm
 have ql:=Ae es
 refine ⟨es.length+1,?_⟩
 simp only [qP.c,fL,fC,fJ,fG]
 simp [ql,u1,u2,x1,x2]
 refine lL (fun m s=> ∃ pre rest out,es=pre++rest/\m=rest.length/\pK ⟨u,x,es⟩=out++nF rest/\out.length=2+pre.length*2/\s.mem 27=none/\s.tm 14 = .o (.c (.q 2 (qE es)))/\s.tm 15 = .o (iv .i64 (es.length:Int))/\s.tm 16 = .o (iv .i64 (pre.length:Int)) /\
  ∃ q,(q=28∨(q=12/\s.mem 28=none))/\s.tm 3 = .o (.c (.s ⟨9,1,none⟩ q out.length))/\s.mem q=some (cS out)) ?_ _ es.length _ (by omega) ?_
 ·rintro m s ⟨pre,rest,out,hsp,rfl,hnum,hout,m27,t14,t15,t16,q,hq,t3,mq⟩
  cases rest with
  | nil=>
   have e1:pre.length=es.length:=by rw [hsp];simp
   simp only [nF,List.append_nil] at hnum
   have ho:out.length=(pK ⟨u,x,es⟩).length:=by rw [hnum]
   rcases hq with rfl | ⟨rfl,m28⟩<;>simp [qP.l1,t3,t14,t15,t16,mq,e1,Oy,T6,hnum]
  | cons e r=>
   obtain ⟨c,d⟩:=e
   have hce:bD c/\bD d:=by rw [hsp,xT] at hes;exact ⟨hes.2.1,hes.2.2.1⟩
   obtain ⟨i1,i2⟩:=hce
   obtain ⟨⟨c1,c2⟩,d1,d2⟩:bD c/\bD d:=⟨i1,i2⟩
   have e0:es.length=pre.length+(r.length+1):=by rw [hsp];simp
   have e1:(pre.length:Int)<(es.length:Int):=by omega
   have hd:(qE es).drop (pre.length*2) = .v (.int .i64 c) :: .v (.int .i64 d)::qE r:=by rw [zR,hsp];simp [qE]
   have q0:(qE es).length=es.length*2:=iC es
   have q1:pre.length*2+2<=es.length*2:=by omega
   have w1:IntKind.i64.wrap ((pre.length:Int)+1)=(pre.length:Int)+1:=aD (by omega) (by omega)
   have q4:out.length<=999999999998:=by omega
   generalize hR:qE es=R at *
   rcases hq with rfl | ⟨rfl,m28⟩
   ·simp [qP.l1,t3,t14,t15,t16,m27,mq,e1,hd,q0,q1,w1,q4,c1,c2,d1,d2,Cu,Oy,Xk]
    exact ⟨r.length,by omega,pre ++ [(c,d)],r,by rw [hsp];simp,rfl,out ++ [Lib.itoa c,Lib.itoa d],by rw [hnum];simp [nF],by simp [hout];omega,by simp,by simp,by simp [cS]⟩
   ·simp [qP.l1,t3,t14,t15,t16,m27,m28,mq,e1,hd,q0,q1,w1,q4,c1,c2,d1,d2,Cu,Oy,Xk]
    exact ⟨r.length,by omega,pre ++ [(c,d)],r,by rw [hsp];simp,rfl,out ++ [Lib.itoa c,Lib.itoa d],by rw [hnum];simp [nF],by simp [hout];omega,by simp,by simp,by simp [cS]⟩
 ·exact ⟨[],es,[Lib.itoa u,Lib.itoa x],rfl,rfl,rfl,rfl,by simp,by simp,by simp,by simp,12,by simp,by simp,by simp [cS]⟩
theorem Nx {t:bC} (hp:bV.p t) (h:dG t):(jZ t).length<=2800:=by
 have h1:=lX hp.1
 have h2:=lX hp.2.1
 have h3:=S6 hp.2.2
 have h4:=Df h
 simp only [jZ,pK,List.flatten_cons,List.length_append]
 omega
abbrev aM4:=s1 bV dX fun t=> .o (gR (if dG t then jZ t else []))
theorem aL4:Ok Tryz.prog 116 aM4:=cA (aG Tryz.func116 yZ.ent yZ.aA (aB aPb (aB aPt (aB aBO aH)))) (by simp [yZ.c]) fun t ht _=>by
 refine ⟨0,?_⟩
 by_cases hm:dG t
 ·have hl:=Nx ht hm
  have h4:=Df hm
  have hn:(pK t).length<=1000:=by simp [pK,Yy];omega
  have h0:pK t ≠ []:=by simp [pK]
  have hf:(pK t).flatten.length<=1000000:=by unfold jZ at hl;omega
  have hl':(List.map List.length (pK t)).sum<=1000000:=by rw [← List.length_flatten];exact hf
  obtain ⟨h1,h2,h3⟩:=ht
  simp [yZ.c,hm,h3,hn,h0,hl',jZ]
  exact ⟨h1,h2⟩
 ·obtain ⟨h1,h2,h3⟩:=ht
  simp [yZ.c,hm,h3]
  exact ⟨h1,h2⟩
abbrev aN7:=s1 bV dG fun t=> .o (gR (jZ t))
theorem aDl:Ok Tryz.prog 52 aN7:=cA (aG Tryz.func52 rI.ent rI.aA (aB W1 aH)) (by simp [rI.c]) fun t ht hm=>by
 have hlen:=Df hm
 have hdl:=Nx ht hm
 obtain ⟨u,x,es⟩:=t
 obtain ⟨⟨u1,u2⟩,⟨x1,x2⟩,hes⟩:=ht
 obtain ⟨hb,-,⟨u3,u4⟩,x3,x4⟩:=hm
 simp only at u1 u2 x1 x2 hes hlen hb u3 u4 x3 x4
 have lu:=lX ⟨u1,u2⟩
 have lx:=lX ⟨x1,x2⟩
 have lxu:(Lib.itoa u).length+(Lib.itoa x).length<=0x7fffffffffffffff:=by omega
 have ql:=Ae es
 refine ⟨es.length+1,?_⟩
 simp only [rI.c,fL,fC,fJ,fG]
 simp [u1,u2,x1,x2,u3,x3,lxu]
 refine lL (fun m s=> ∃ pre rest acc,es=pre++rest/\m=rest.length/\jZ ⟨u,x,es⟩=acc++(nF rest).flatten/\dS pre rest=none/\s.tm 1 = .o (.c (.p 1 0))/\s.tm 3 = .o (gR acc)/\s.tm 4 = .o (iv .i64 (pre.length:Int)) /\
  s.mem 1=some [.v (.int .i64 u),.v (.int .i64 x),.q 2 (qE es)]) ?_ _ es.length _ (by omega) ?_
 ·rintro m s ⟨pre,rest,acc,hsp,rfl,hd0,hbad,t1,t3,t4,m1⟩
  cases rest with
  | nil=>
   have e1:pre.length=es.length:=by rw [hsp];simp
   simp only [nF,List.flatten_nil,List.append_nil] at hd0
   simp [rI.l1,t1,t3,t4,m1,e1,ql,hd0]
  | cons e r=>
   obtain ⟨c,d⟩:=e
   have hce:bD c/\bD d:=by rw [hsp,xT] at hes;exact ⟨hes.2.1,hes.2.2.1⟩
   obtain ⟨i1,i2⟩:=hce
   obtain ⟨⟨c1,c2⟩,d1,d2⟩:bD c/\bD d:=⟨i1,i2⟩
   simp only [dS] at hbad
   have hk:cQ pre (c,d):=by
    by_cases h:cQ pre (c,d)
    ·exact h
    ·rw [if_neg h] at hbad;cases hbad
   rw [if_pos hk] at hbad
   have c3:0<=c:=hk.2.1.1
   have d3:0<=d:=hk.2.2.2.1.1
   have e0:es.length=pre.length+(r.length+1):=by rw [hsp];simp
   have e1:(pre.length:Int)<(es.length:Int):=by omega
   have hd:(qE es).drop (pre.length*2) = .v (.int .i64 c) :: .v (.int .i64 d)::qE r:=by rw [zR,hsp];simp [qE]
   have q0:(qE es).length=es.length*2:=iC es
   have q1:pre.length*2+2<=es.length*2:=by omega
   have w1:IntKind.i64.wrap ((pre.length:Int)+1)=(pre.length:Int)+1:=aD (by omega) (by omega)
   have hacc:acc.length<=2800:=by
    have:=congrArg List.length hd0
    rw [List.length_append] at this;omega
   have lc:=lX i1
   have ld:=lX i2
   have la:acc.length+(Lib.itoa c).length<=0x7fffffffffffffff:=by omega
   have lb:acc.length+(Lib.itoa c).length+(Lib.itoa d).length<=0x7fffffffffffffff:=by omega
   have lb':acc.length+((Lib.itoa c).length+(Lib.itoa d).length)<=0x7fffffffffffffff:=by omega
   generalize hR:qE es=R at *
   simp [rI.l1,t1,t3,t4,m1,e1,hd,q0,q1,ql,w1,c1,c2,d1,d2,c3,d3,la,lb,lb']
   exact ⟨r.length,by omega,pre ++ [(c,d)],r,by rw [hsp];simp,rfl,acc++(Lib.itoa c++Lib.itoa d),by rw [hd0];simp [nF],hbad,by simp,by simp⟩
 ·exact ⟨[],es,Lib.itoa u++Lib.itoa x,rfl,rfl,by simp [jZ,pK],hb,by simp,by simp,by simp,by simp⟩
end Go.Proofs.YtfcbohachbeamaaGreatDoor.E
end
section
namespace Go.VC.Tx
open Go
def dg (c:UInt8):Bool:=decide (48<=c.toNat/\c.toNat<=57)
theorem Zt {d:Nat} (h:d<10):(UInt8.ofNat (48+d)).toNat=48+d:=by
 rw [UInt8.toNat_ofNat'];omega
theorem O5 : ∀ (l r:List UInt8) (acc n:Nat),Lib.decFrom acc l=some n->Lib.decFrom acc (l++r)=Lib.decFrom n r
 | [],r,acc,n,h=>by simp only [Lib.decFrom,Option.some.injEq] at h;subst h;rfl
 | b::l,r,acc,n,h=>by
  simp only [Lib.decFrom,List.cons_append] at h ⊢
  cases hd:Lib.digitVal b with
  | none=>rw [hd] at h;cases h
  | some d=>rw [hd] at h;exact O5 l r _ n h
theorem digits (u:Nat):(Lib.decDigits u).all dg=true/\Lib.decDigits u ≠ []/\((Lib.decDigits u).getD 0 0=48->u=0)/\Lib.decFrom 0 (Lib.decDigits u)=some u /\ ∀ k,u<10 ^ (k+1)->(Lib.decDigits u).length<=k+1:=by
 induction u using Nat.strongRecOn with
 | _ u ih=>
  by_cases h:u<10
  ·have e:=Zt h
   rw [Lib.decDigits_one h]
   refine ⟨by generalize UInt8.ofNat (48+u)=c at *;simp [dg,e];omega,by simp,?_,?_,fun k _=>by simp⟩
   ·intro h0
    have:(UInt8.ofNat (48+u)).toNat=(48:UInt8).toNat:=by rw [show UInt8.ofNat (48+u)=48 from h0]
    rw [e] at this
    have:48+u=48:=this
    omega
   ·have hd:Lib.digitVal (UInt8.ofNat (48+u))=some u:=by
     simp only [Lib.digitVal,e]
     rw [if_pos (by omega)]
     congr 1;omega
    simp only [Lib.decFrom,hd,Nat.zero_mul,Nat.zero_add]
  ·have e:=Zt (show u%10<10 by omega)
   obtain ⟨i1,i2,i3,i4,i5⟩:=ih (u/10) (by omega)
   rw [Lib.decDigits,dif_neg h]
   refine ⟨?_,by simp,?_,?_,?_⟩
   ·rw [List.all_append,i1]
    generalize UInt8.ofNat (48+u%10)=c at *
    simp [dg,e];omega
   ·intro h0
    have:(Lib.decDigits (u/10)).getD 0 0=48:=by
     cases hh:Lib.decDigits (u/10) with
     | nil=>exact absurd hh i2
     | cons a r=>rw [hh] at h0;simpa using h0
    have:=i3 this
    omega
   ·rw [O5 _ _ _ _ i4]
    have hd:Lib.digitVal (UInt8.ofNat (48+u%10))=some (u%10):=by
     simp only [Lib.digitVal,e]
     rw [if_pos (by omega)]
     congr 1;omega
    simp only [Lib.decFrom,hd,Option.some.injEq]
    omega
   ·intro k hk
    cases k with
    | zero=>simp at hk;omega
    | succ k=>
     have h2:u/10<10 ^ (k+1):=by
      rw [Nat.pow_succ] at hk
      omega
     have:=i5 k h2
     rw [List.length_append]
     simp;omega
theorem Kt {n:Int} (h:0<=n):Lib.itoa n=Lib.decDigits n.toNat:=by
 unfold Lib.itoa;rw [if_neg (by omega)]
theorem Jj {n:Int} (h:0<=n):(Lib.itoa n).all dg=true:=by rw [Kt h];exact (digits _).1
theorem Lh {n:Int} (h:0<=n):Lib.itoa n ≠ []:=by rw [Kt h];exact (digits _).2.1
theorem aJc {n:Int} (h:0<=n) (h0:(Lib.itoa n).getD 0 0=48):Lib.itoa n = [48]:=by
 rw [Kt h] at h0 ⊢
 have:=(digits n.toNat).2.2.1 h0
 rw [this]
 exact Lib.decDigits_one (by decide)
theorem aMm {n:Int} (h:0<=n) (h2:n<0xde0b6b3a7640000):(Lib.itoa n).length<=18:=by
 rw [Kt h]
 exact (digits n.toNat).2.2.2.2 17 (by have:(10:Nat) ^ (17+1)=0xde0b6b3a7640000:=by decide
                                       omega)
theorem aKS {n:Int} (h:0<=n):Lib.decFrom 0 (Lib.itoa n)=some n.toNat:=by rw [Kt h];exact (digits _).2.2.2.1
theorem aNp {n:Int} (h:0<=n):Lib.atoi (Lib.itoa n)=some n:=by
 have h1:=Jj h
 have h2:=Lh h
 have h3:=aKS h
 generalize Lib.itoa n=l at *
 cases l with
 | nil=>exact absurd rfl h2
 | cons b r=>
  have hb:48<=b.toNat/\b.toNat<=57:=by
   simp only [List.all_cons,Bool.and_eq_true] at h1
   simpa [dg] using h1.1
  have c1:(b==45)=false:=by
   apply Bool.eq_false_iff.2
   intro e;have:=beq_iff_eq.1 e;subst this;exact absurd hb.1 (by decide)
  have c2:(b==43)=false:=by
   apply Bool.eq_false_iff.2
   intro e;have:=beq_iff_eq.1 e;subst this;exact absurd hb.1 (by decide)
  simp [Lib.atoi,c1,c2,Lib.decNat,h3]
  omega
theorem Uj (l:List UInt8) (c:UInt8) (h : [32,9].contains c=true):Lib.trimLeftS (c::l) [32,9]=Lib.trimLeftS l [32,9]:=by
 simp only [Lib.trimLeftS,List.dropWhile_cons,h,if_true]
theorem aBs {l:List UInt8} (h : ∀ c r,l=c::r -> [32,9].contains c=false):Lib.trimLeftS l [32,9]=l:=by
 cases l with
 | nil=>rfl
 | cons c r=>simp only [Lib.trimLeftS,List.dropWhile_cons,h c r rfl];rfl
theorem aCL {c:UInt8} (h:dg c=true) : [32,9].contains c=false:=by
 have h':48<=c.toNat/\c.toNat<=57:=by simpa [dg] using h
 apply Bool.eq_false_iff.2
 intro e
 have e:c=32∨c=9:=by simpa using e
 rcases e with rfl | rfl
 ·exact absurd h'.1 (by decide)
 ·exact absurd h'.1 (by decide)
theorem Xm {n:Int} (h:0<=n) (r:List UInt8):Lib.trimLeftS (Lib.itoa n++r) [32,9]=Lib.itoa n++r:=by
 have h1:=Jj h
 have h2:=Lh h
 refine aBs fun c s hc=> ?_
 cases hh:Lib.itoa n with
 | nil=>exact absurd hh h2
 | cons b t=>
  rw [hh] at hc h1
  simp only [List.cons_append,List.cons.injEq] at hc
  simp only [List.all_cons,Bool.and_eq_true] at h1
  rw [← hc.1]
  exact aCL h1.1
theorem Qv {p:UInt8->Bool} : ∀ {l:List UInt8},l.all p=true -> ∀ {r:List UInt8},(∀ c s,r=c::s->p c=false)->(l++r).takeWhile p=l/\(l++r).dropWhile p=r
 | [],_,r,hr=>by
  cases r with
  | nil=>exact ⟨rfl,rfl⟩
  | cons c s=>simp [hr c s rfl]
 | c::l,h,r,hr=>by
  simp only [List.all_cons,Bool.and_eq_true] at h
  obtain ⟨h1,h2⟩:=Qv h.2 hr
  simp [h.1,h1,h2]
theorem aAl {l:List UInt8} {p:UInt8->Bool} (h:l.all p=true) {c:UInt8} (hc:p c=false):c ∉ l:=fun hm=>by
 have:=List.all_eq_true.1 h c hm
 rw [hc] at this;cases this
def hx (d:Nat):UInt8:=if d<10 then UInt8.ofNat (48+d) else UInt8.ofNat (87+d)
def gM (w:Nat):List UInt8:= [hx (w/268435456%16),hx (w/16777216%16),hx (w/1048576%16),hx (w/65536%16),hx (w/4096%16),hx (w/256%16),hx (w/16%16),hx (w%16)]
def hg (c:UInt8):Bool:=decide (48<=c.toNat/\c.toNat<=57∨97<=c.toNat/\c.toNat<=102)
theorem aBl {d:Nat} (h:d<16):(hx d).toNat=if d<10 then 48+d else 87+d:=by
 unfold hx
 split<;>(rw [UInt8.toNat_ofNat'];omega)
theorem aIh {d:Nat} (h:d<16):hg (hx d)=true:=by
 unfold hg
 rw [aBl h]
 split<;>simp<;>omega
theorem Ww (w:Nat):(gM w).all hg=true:=by
 simp only [gM,List.all_cons,List.all_nil,Bool.and_true]
 simp only [aIh (Nat.mod_lt _ (show 16>0 by decide)),Bool.and_self]
theorem Vt (w:Nat):(gM w).length=8:=rfl
theorem aLZ {c:UInt8} (h:hg c=true) : [32,9].contains c=false:=by
 have h':48<=c.toNat/\c.toNat<=57∨97<=c.toNat/\c.toNat<=102:=by simpa [hg] using h
 apply Bool.eq_false_iff.2
 intro e
 have e:c=32∨c=9:=by simpa using e
 rcases e with rfl | rfl
 ·rcases h' with h' | h'<;>exact absurd h'.1 (by decide)
 ·rcases h' with h' | h'<;>exact absurd h'.1 (by decide)
theorem aEf (w:Nat) (r:List UInt8):Lib.trimLeftS (gM w++r) [32,9]=gM w++r:=
 aBs fun c s hc=>by
  have h1:=Ww w
  simp only [gM,List.cons_append,List.cons.injEq] at hc h1
  rw [List.all_cons,Bool.and_eq_true] at h1
  rw [← hc.1]
  exact aLZ h1.1
end Go.VC.Tx
end
section
namespace Go.Proofs.YtfcbohachbeamaaGreatDoor.E
open Go.VC Go.RowKit Go.VC.Tx
theorem aA2 (l:List UInt8):l.map (fun c=>(c.toNat:Int))=nb l:=rfl
def kX (t:bC):H5:=oT (if dG t then jZ t else [])
theorem aRr {t:bC} (ht:bV.p t):(if dG t then jZ t else []).length<=1000000:=by
 split
 ·rename_i hm
  have:=Nx ht hm
  omega
 ·simp
abbrev Rw:=s1 bV dX fun t=> .o (.g ((kX t).cells .u32))
theorem aGz:Ok Tryz.prog 83 Rw:=cA (aG Tryz.func83 Az.ent Az.aA (aB aL4 (aB aMa aH))) (by simp [Az.c]) fun t ht _=>by
 refine ⟨0,?_⟩
 have hl:=aRr ht
 obtain ⟨x1,x2,x3,x4,x5⟩:(kX t).ok:=Uc _
 have hs:oT (if dG t then jZ t else [])=kX t:=rfl
 obtain ⟨u,x,es⟩:=t
 obtain ⟨⟨u1,u2⟩,⟨v1,v2⟩,h3⟩:=ht
 simp only at u1 u2 v1 v2 h3
 simp [Az.c,u1,u2,v1,v2,h3,aA2,hl,hs,H5.cells,x1,x2,x3,x4,x5]
 exact ⟨⟨u1,u2⟩,v1,v2⟩
def H5.l (h:H5):List Nat:= [h.a,h.b,h.c,h.d,h.e]
def kM:List En->List UInt8
 | []=> []
 | e::r=>Lib.itoa e.1++9::(Lib.itoa e.2++10::kM r)
def cG:List Nat->List UInt8
 | []=> []
 | w::r=>9::(gM w++cG r)
def mM (t:bC):List UInt8:=35::36::9::(Lib.itoa t.u++10::35::64::9::(Lib.itoa t.x++10::(kM t.es++35::104::(cG (H5.l (kX t)) ++ [10]))))
theorem Tc : ∀ {l:List En},pE l->(kM l).length<=l.length*44
 | [],_=>by simp [kM]
 | e::r,h=>by
  obtain ⟨h1,h2,h3⟩:=h
  have:=Tc h3
  have:=lX h1
  have:=lX h2
  simp [kM];omega
theorem Pf : ∀ l:List Nat,(cG l).length=l.length*9
 | []=>rfl
 | w::r=>by simp [cG,Pf r,Vt];omega
theorem aAe : ∀ a b:List Nat,cG (a++b)=cG a++cG b
 | [],b=>rfl
 | w::r,b=>by simp [cG,aAe r b]
theorem aO6 (w j:Nat) (h:j<8):(gM w).take (j+1)=(gM w).take j ++ [hx (w/2 ^ (28-4*j)%16)]:=by
 rcases j with _ | _ | _ | _ | _ | _ | _ | _ | j
 ·rfl
 ·rfl
 ·rfl
 ·rfl
 ·rfl
 ·rfl
 ·rfl
 ·simp [gM]
 ·omega
abbrev aAk:List UInt8:= [48,49,50,51,52,53,54,55,56,57,97,98,99,100,101,102]
theorem aQv {d:Nat} (h:d<16):(aAk.take (d+1)).drop d = [hx d]:=by
 have : ∀ d:Fin 16,(aAk.take (d.val+1)).drop d.val = [hx d.val]:=by decide
 exact this ⟨d,h⟩
theorem aJG {sp:VC.Spec} {k:Nat} (C:List AC) (w i:Nat) (acc:List UInt8) (hC:C.length=5) (hi:i<5) (hg:C[i]? = some (.v (.int .i64 (w:Int)))) (hw:w<4294967296) (hacc:acc.length<=100000) (Q:AX->St->Prop) (n:Nat) (hn:8<n) (s:St)
 (t3:s.tm 3 = .o (gR acc)) (t5:s.tm 5 = .o (.c (.p 5 0))) (t6:s.tm 6 = .o (iv .i64 (i:Int))) (t7:s.tm 7 = .o (iv .i64 28)) (m5:s.mem 5=some C)
 (h : ∀ s',s'.tm 3 = .o (gR (acc++gM w))->s'.tm 5 = .o (.c (.p 5 0))->s'.tm 6 = .o (iv .i64 (i:Int))->s'.mem=s.mem->Q (.e 4) s'):pD sp k iD.l2 n s Q:=by
 refine iO (fun j s'=>s'.tm 3 = .o (gR (acc++(gM w).take j))/\s'.tm 5 = .o (.c (.p 5 0))/\s'.tm 6 = .o (iv .i64 (i:Int))/\s'.tm 7 = .o (iv .i64 (28-4*(j:Int)))/\s'.mem=s.mem) 8 ?_ ?_ n s hn ?_
 ·rintro j s' hj ⟨t3,t5,t6,t7,hm⟩
  have m5':s'.mem 5=some C:=by rw [hm];exact m5
  have hg2 : ∀ h:i<C.length,C[i]'h = .v (.int .i64 (w:Int)):=fun h=>by rw [List.getElem?_eq_getElem h] at hg;exact Option.some.inj hg
  have f1:IntKind.u64.wrap (28-4*(j:Int))=28-4*(j:Int):=rK (by omega) (by omega)
  have g0:0<=28-4*(j:Int):=by omega
  have g0':4*(j:Int)<=28:=by omega
  have g1:(28-4*(j:Int)).toNat=28-4*j:=by omega
  have g2:min (28-4*j) IntKind.i64.bits=28-4*j:=Nat.min_eq_left (show 28-4*j<=64 by omega)
  have g2':min (28-4*j) 64=28-4*j:=by omega
  have g3:(w:Int).fdiv (2 ^ (28-4*j))=((w/2 ^ (28-4*j):Nat):Int):=by
   rw [Int.fdiv_eq_ediv_of_nonneg _ (Int.pow_nonneg (by decide)),Int.natCast_ediv,Int.natCast_pow];rfl
  have g5:IntKind.i64.wrap (28-4*(j:Int)-4)=28-4*((j:Int)+1):=by rw [aD (by omega) (by omega)];omega
  have hs:=aO6 w j hj
  have hy:w/2 ^ (28-4*j)<4294967296:=Nat.lt_of_le_of_lt (Nat.div_le_self _ _) hw
  have htl:((gM w).take j).length<=8:=by rw [List.length_take,Vt];omega
  generalize (gM w).take j=A at *
  rw [hs]
  generalize w/2 ^ (28-4*j)=y at *
  have ha:=uM (k:= .i64) (.inr rfl) hy (show 15<4294967296 by decide)
  have hd:y &&& 15=y%16:=Nat.and_two_pow_sub_one_eq_mod y 4
  rw [hd] at ha
  have ha:cX .and .i64 (y:Int) 15=((y%16:Nat):Int):=ha
  have hd16:y%16<16:=Nat.mod_lt _ (by decide)
  have hx1:=aQv hd16
  generalize y%16=d at *
  have w1:IntKind.i64.wrap ((d:Int)+1)=((d+1:Nat):Int):=by rw [aD (by omega) (by omega)];omega
  have d1:(d:Int)<=((d+1:Nat):Int):=by omega
  have d2:((d+1:Nat):Int)<=16:=by omega
  have l1:acc.length+A.length+1<=0x7fffffffffffffff:=by omega
  have l2:acc.length+(A.length+1)<=0x7fffffffffffffff:=by omega
  simp [-Int.natCast_add,iD.l2,t3,t5,t6,t7,m5',hi,hC,hg,hg2,f1,g0,g0',g1,g2,g2',g3,g5,ha,w1,d1,d2,l1,l2]
  refine ⟨by omega,by omega,by omega,by omega,?_,by omega,hm⟩
  rw [show List.drop d (48::List.take d [49,50,51,52,53,54,55,56,57,97,98,99,100,101,102]) = [hx d] from hx1]
 ·rintro s' ⟨t3,t5,t6,t7,hm⟩
  have hl:(gM w).take 8=gM w:=rfl
  rw [hl] at t3
  simp [iD.l2,t7]
  exact h _ (by simp [t3]) (by simp [t5]) (by simp [t6]) hm
 ·exact ⟨by simpa using t3,t5,t6,by simpa using t7,rfl⟩
end Go.Proofs.YtfcbohachbeamaaGreatDoor.E
end
section
namespace Go.Proofs.YtfcbohachbeamaaGreatDoor.E
open Go.VC Go.RowKit Go.Maps
abbrev L0:aY:=⟨fun _=>False,fun _=>0,fun _=>False⟩
theorem Qz {P:Program} {f:Nat} {s:List AP->Option AV} (h:Ok P f s) {xs:List AP} {r:AV} (hs:s xs=some r) (ent:Enters P f) (hr : ∀ t n,r ≠ .o (.c (.s t n 0))) (hi:r.uB=false)
 {w:World} {vs:List Value} (G:aZ w) (hrep:cP L0 w xs vs):Calls P f vs.toArray w fun e w'=> ∃ v,e = .returned v/\r.rep L0 w' v/\Below w.heap.size w w':=by
 rcases h xs r hs with ⟨_,h⟩ | ⟨_,h⟩ | ⟨_,t,d,h,_⟩ | ⟨_,args,bG,ns,outs,l,_,_,h,_⟩
 ·exact h.2 (fun _=>False) w vs (fun b hb=>hb.elim) G hrep
 ·obtain ⟨v,hv,_⟩:=h w vs hrep
  rw [ent] at hv
  cases hv
 ·exact absurd h (hr t d)
 ·rw [h] at hi;cases hi
abbrev eF (l:List Int):List Value:=l.map fun w=> .int .u32 w
theorem Y3 {w:World} {k a b:Int} {ws:List Int} {y:Value} (h:(AP.g (ln k a b ws)).rep L0 w y):y = .agg (.int .i64 k :: .int .i64 a :: .int .i64 b::eF ws).toArray:=by
 obtain ⟨ys,rfl,h⟩:=h
 congr 1
 have go : ∀ (l:List Int) (ys:List Value),bE L0 w (l.map fun w=> .v (.int .u32 w)) ys->ys=eF l:=by
  intro l
  induction l with
  | nil=>intro ys h;cases ys with | nil=>rfl | cons _ _=>exact h.elim
  | cons x l ih=>
   intro ys h
   cases ys with
   | nil=>exact h.elim
   | cons y ys=>
    obtain ⟨h1,h2⟩:=h
    rw [h1.1,ih ys h2];rfl
 rcases ys with _ | ⟨y0,_ | ⟨y1,_ | ⟨y2,ys⟩⟩⟩
 ·exact h.elim
 ·exact h.2.elim
 ·exact h.2.2.elim
 ·obtain ⟨h0,h1,h2,h3⟩:=h
  rw [h0.1,h1.1,h2.1,go _ _ h3]
theorem J9 : ∀ (n:Nat) (l:List UInt8),(gL n l).length=n
 | 0,_=>rfl
 | n+1,l=>by simp [gL,J9 n]
theorem aBB {l:List UInt8} {k a b:Int} {ws:List Int} (h:bB l=some (k,a,b,ws)):ws.length=5:=by
 unfold bB at h
 split at h
 ·unfold tO at h;split at h
  ·cases h;rfl
  ·cases h
 ·split at h
  ·unfold tO at h;split at h
   ·cases h;rfl
   ·cases h
  ·split at h
   ·unfold Hc at h;split at h
    ·cases h;exact J9 5 _
    ·cases h
   ·split at h
    ·cases h;rfl
    ·unfold Ko at h;split at h
     ·cases h;rfl
     ·cases h
theorem uV (l:List UInt8) (w:World) (G:aZ w) (hl:l.length<=1000000):Calls Tryz.prog 113 #[sv l] w fun e w'=>Below w.heap.size w w' /\
 match bB l with
 | some (k,a,b,ws)=>e = .returned (.tuple #[.agg (.int .i64 k :: .int .i64 a :: .int .i64 b::eF ws).toArray,.bool true])
 | none=>e = .returned (.tuple #[.agg (.int .i64 0 :: .int .i64 0 :: .int .i64 0::eF jC).toArray,.bool false]):=by
 have hs:Ug [gR l]=some (nT (bB l)):=by simp [Ug,s1,hl]
 have hr : ∀ t n,nT (bB l) ≠ .o (.c (.s t n 0)):=by intro t n h;unfold nT at h;split at h<;>cases h
 have hi:(nT (bB l)).uB=false:=by unfold nT;split<;>rfl
 refine (Qz aJk hs mZ.ent hr hi G (vs:= [sv l]) ⟨⟨rfl,rfl⟩,trivial⟩).mono ?_
 rintro e w' ⟨v,rfl,hv,hb⟩
 refine ⟨hb,?_⟩
 cases hsc:bB l with
 | none=>
  rw [hsc] at hv
  obtain ⟨ys,rfl,h⟩:=hv
  rcases ys with _ | ⟨y0,_ | ⟨y1,_ | ⟨y2,ys⟩⟩⟩
  ·exact h.elim
  ·exact h.2.elim
  ·rw [Y3 h.1,h.2.1.1]
  ·exact h.2.2.elim
 | some x=>
  obtain ⟨k,a,b,ws⟩:=x
  rw [hsc] at hv
  obtain ⟨ys,rfl,h⟩:=hv
  rcases ys with _ | ⟨y0,_ | ⟨y1,_ | ⟨y2,ys⟩⟩⟩
  ·exact h.elim
  ·exact h.2.elim
  ·dsimp only;rw [Y3 h.1,h.2.1.1]
  ·exact h.2.2.elim
def bR:List En->List Value
 | []=> []
 | e::r=> .int .i64 e.1 :: .int .i64 e.2::bR r
theorem Cf : ∀ l,(bR l).length=l.length*2
 | []=>rfl
 | e::r=>by simp [bR,Cf r];omega
theorem aAD : ∀ a b,bR (a++b)=bR a++bR b
 | [],b=>rfl
 | e::r,b=>by simp [bR,aAD r b]
theorem Ja : ∀ l,qE l=(bR l).map QC.v
 | []=>rfl
 | e::r=>by simp [qE,bR,Ja r]
theorem Jl : ∀ (l:List En) (x:Value),x∈bR l->x.oneCell'=true
 | [],_,h=>by cases h
 | e::r,x,h=>by
  simp only [bR,List.mem_cons] at h
  rcases h with rfl | rfl | h
  ·rfl
  ·rfl
  ·exact Jl r x h
theorem Zv {w:World} {base:Nat} {e:TypeId} {v:Value} {es:List En} (h:w.ownsRow base e 2 v es.length (bR es)):(AP.c (.q 2 (qE es))).rep L0 w v:=by
 rcases h.2 with ⟨rfl,h0⟩ | ⟨g,cap,cur,rfl,hb,hg,h1,h2,h3,h4⟩
 ·have:es = []:=List.eq_nil_of_length_eq_zero h0
  subst this
  exact .inl ⟨rfl,rfl⟩
 ·refine .inr ⟨g,0,es.length,cap,rfl,by rw [iC],h1,fun h=>h,(Array.getElem?_eq_some_iff.1 hg).1,fun j c hc=> ?_⟩
  rw [Ja,List.getElem?_map] at hc
  cases hv:(bR es)[j]? with
  | none=>rw [hv] at hc;cases hc
  | some x=>
   rw [hv] at hc
   cases hc
   refine ⟨x,?_,rfl,Jl es x (List.mem_of_getElem? hv)⟩
   have hj:j<es.length*2:=by
    have:=(List.getElem?_eq_some_iff.1 hv).1
    rwa [Cf] at this
   rw [← h4,List.getElem?_take,if_pos hj] at hv
   unfold World.cell?
   rw [hg]
   simpa using hv
theorem W6 (es:List En) (a b:Int) (ev:Value) (base:Nat) (e:TypeId) (w:World) (G:aZ w) (hrow:w.ownsRow base e 2 ev es.length (bR es)) (hp:pE es) (hl:tC es) (hn:es.length<=1000) (ha:bD a) (hb:bD b) :
 Calls Tryz.prog 114 #[ev,.agg #[.int .i64 a,.int .i64 b]] w fun r w'=>r = .returned (.bool (decide (cQ es (a,b))))/\Below w.heap.size w w':=by
 have hs:Lm [.c (.q 2 (qE es)),.g [.v (.int .i64 a),.v (.int .i64 b)]]=some (.o (bv (decide (cQ es (a,b))))):=by
  have hn':es.length<=1000000000000:=by omega
  simp [Lm,s2,hp,ha,hb,hl,hn']
 refine (Qz aAc hs kA.ent (fun t n h=>by cases h) rfl G (vs:= [ev,.agg #[.int .i64 a,.int .i64 b]]) ⟨Zv hrow,⟨[.int .i64 a,.int .i64 b],rfl,⟨rfl,rfl⟩,⟨rfl,rfl⟩,trivial⟩,trivial⟩).mono ?_
 rintro r w' ⟨v,rfl,hv,hb⟩
 exact ⟨by rw [hv.1],hb⟩
structure Rd where
 u:Int
 x:Int
 es:List En
 ws:List Int
 at_:Int->Int
def bM (r:Rd) (l:Option Ln) (n:Int):Rd×Int:=
 match l with
 | none=>(r,4)
 | some (k,a,b,ws)=>
  if (k≠1/\k≠5)/\0<r.at_ k then (r,4)
  else if k=2 then ({ r with at_:=fun j=>if j=k then n else r.at_ j,u:=a },0)
  else if k=3 then ({ r with at_:=fun j=>if j=k then n else r.at_ j,x:=a },0)
  else if k=4 then ({ r with at_:=fun j=>if j=k then n else r.at_ j,ws:=ws },0)
  else if k=5 then (if cQ r.es (a,b) then ({ r with at_:=fun j=>if j=k then n else r.at_ j,es:=r.es ++ [(a,b)] },0) else ({ r with at_:=fun j=>if j=k then n else r.at_ j },10))
  else ({ r with at_:=fun j=>if j=k then n else r.at_ j },0)
abbrev di (n:Int):DataW Unit:= .lit (.int .i64 n)
def zQ (D:DataW Unit) (f:Int->Int):Prop:= ∀ k:Int,D.atKey (.int .i64 k) (di 0)=di (f k)
structure dP (w:World) (b m base n:Nat) (v:Value) (T:TypeId) (r:Rd):Prop where
 cells:w.heap[b]? = some (.cells (.int .i64 r.u :: .int .i64 r.x::v::(eF r.ws ++ [.map (some m)])).toArray T (0,0))
 map : ∃ D,w.ownsMap Tryz.prog 3 (plainElem (H:=Unit) Tryz.prog 3) m n D/\zQ D r.at_
 row:w.ownsRow base 51 2 v r.es.length (bR r.es)
 len:r.ws.length=5
 lt:m<b/\b<base/\base<=w.heap.size
 ge:NG<=m
theorem aJ6 {D:DataW Unit} {f:Int->Int} (h:zQ D f) (hm:IsMap D) (k n:Int):zQ (D.put (.int .i64 k) (di n)) (fun j=>if j=k then n else f j):=by
 intro j
 by_cases hj:j=k
 ·subst hj
  rw [atKey_put_same hm (by trivial)]
  simp
 ·rw [atKey_put_other (by intro e;cases e;exact hj rfl),h j]
  simp [hj]
structure fV (w w':World) (b m:Nat) (v:Value):Prop where
 os:w'.os=w.os
 tape:w'.tape=w.tape
 output:w'.output=w.output
 size:w.heap.size<=w'.heap.size
 block : ∀ k,k<w.heap.size->k≠b->k≠m->some k≠v.ownBlock->w'.heap[k]? = w.heap[k]?
theorem xJ:Keyed Tryz.prog 3:=int_keyed Tryz.underlying3
theorem Sy (w:World):(zeroValue 3).run Tryz.prog w = .ok (.int .i64 0) w:=by kernel_rfl
theorem uP {n:Nat} {w w':World} (h:Below n w w') (k:Nat):Below n w (w'.drewN k):=⟨h.os,h.tape,h.output,h.size,h.block⟩
theorem aBy (b m base n:Nat) (v:Value) (T:TypeId) (r:Rd) (l:List UInt8) (at_:Int) (w:World) (G:aZ w) (R:dP w b m base n v T r) (hl:l.length<=1000000) (hs:bB l=none) :
 Calls Tryz.prog 82 #[.pointer (some ⟨b,0,none⟩),sv l,.int .i64 at_] w fun e w'=>e = .returned (.int .i64 4)/\Below w.heap.size w w':=by
 have hnot : ∀ (x:Bool) (w:World),(Op.unary .not (.bool x)).run Tryz.prog w = .ok (.bool (!x)) w:=fun _ _=>rfl
 go_enter Tryz.func82,Tryz.ntmps82
 go_wp2_with (go_at_call 113;refine (uV l _ G hl).mono ?_;rintro e w1 ⟨hb1,he⟩;rw [hs] at he;subst he)
 go_quiet (fail)
 go_wp2
 go_ret
 exact ⟨rfl,uP (hb1.alloc hb1.size _) _⟩
theorem vX {b m base n:Nat} {v:Value} {T:TypeId} {r:Rd} {w w1:World} (R:dP w b m base n v T r) (hb1:Below w.heap.size w w1) (o:Obj) {W:World} (hW:W=w1.alloc o) :
 W.heap[b]? = some (.cells (.int .i64 r.u :: .int .i64 r.x::v::(eF r.ws ++ [.map (some m)])).toArray T (0,0))/\W.cell? ⟨b,8,none⟩=some (.map (some m))/\(∃ D,W.ownsMap Tryz.prog 3 (plainElem (H:=Unit) Tryz.prog 3) m n D/\zQ D r.at_) /\
  W.ownsRow base 51 2 v r.es.length (bR r.es)/\(∀ k:Int,(Lit.int .i64 k).wf=true -> ∀ j,(Instr.lookup 155 (.map (some m)) (.int .i64 k) false).run Tryz.prog (W.drewN j) = .ok (.int .i64 (r.at_ k)) (W.drewN j))/\Below w.heap.size w W/\b<w.heap.size:=by
 have hB:Below w.heap.size w W:=by rw [hW];exact hb1.alloc hb1.size _
 have hlt:b<w.heap.size:=(Array.getElem?_eq_some_iff.1 R.cells).1
 have hc:W.heap[b]? = some (.cells (.int .i64 r.u :: .int .i64 r.x::v::(eF r.ws ++ [.map (some m)])).toArray T (0,0)):=(hB.block b hlt).trans R.cells
 obtain ⟨D,hD,hA⟩:=R.map
 have hg:w.grownBy W none:=⟨hB.os,hB.tape,hB.output,hB.size,fun k hk _=>hB.block k hk⟩
 have hDW:W.ownsMap Tryz.prog 3 (plainElem (H:=Unit) Tryz.prog 3) m n D:=hD.kept hg (by simp)
 refine ⟨hc,?_,⟨D,hDW,hA⟩,R.row.kept hg (by cases v.ownBlock<;>simp),fun k hk j=> ?_,hB,hlt⟩
 ·unfold World.cell?
  rw [hc]
  have h5:=R.len
  match hw:r.ws,h5 with
  | [y0,y1,y2,y3,y4],_=>rfl
 ·have hDj:(W.drewN j).ownsMap Tryz.prog 3 (plainElem (H:=Unit) Tryz.prog 3) m n D:=hDW
  obtain ⟨c,hrun,hat,hwc⟩:=hDj.lookup_int xJ Tryz.underlying155 Tryz.underlying3 (Sy _) (keyOf_int_mk Tryz.underlying3 hk)
  have:=hA k
  rw [this] at hat
  cases hat
  exact hrun
theorem aI6 (b m base n:Nat) (v:Value) (T:TypeId) (r:Rd) (l:List UInt8) (at_:Int) (w:World) (G:aZ w) (R:dP w b m base n v T r) (hl:l.length<=1000000) (a c x0 x1 x2 x3 x4:Int) (hs:bB l=some (2,a,c,[x0,x1,x2,x3,x4])) (h0:0<r.at_ 2) :
 Calls Tryz.prog 82 #[.pointer (some ⟨b,0,none⟩),sv l,.int .i64 at_] w fun e w'=>e = .returned (.int .i64 4)/\Below w.heap.size w w':=by
 have hnot : ∀ (x:Bool) (w:World),(Op.unary .not (.bool x)).run Tryz.prog w = .ok (.bool (!x)) w:=fun _ _=>rfl
 go_enter Tryz.func82,Tryz.ntmps82
 go_wp2_with (go_at_call 113;refine (uV l _ G hl).mono ?_;rintro e w1 ⟨hb1,he⟩;rw [hs] at he;simp only [eF,List.map_cons,List.map_nil] at he;subst he)
 obtain ⟨W,hW⟩ : ∃ W,W=w1.alloc (.cells #[.int .i64 2,.int .i64 a,.int .i64 c,.int .u32 x0,.int .u32 x1,.int .u32 x2,.int .u32 x3,.int .u32 x4] 199):=⟨_,rfl⟩
 rw [← hW]
 obtain ⟨hcb,hc8,hD,hrow,hlk,hB,hlt⟩:=vX R hb1 _ hW
 have hl2:=hlk 2 (by decide)
 have k0:W.cell? ⟨w1.heap.size,0,none⟩=some (.int .i64 2):=by rw [hW,World.cell?_alloc_at _ _ _ _ rfl];rfl
 clear hlk hW
 generalize r.at_ 2=y at *
 go_quiet (fail)
 go_wp2
 go_ret
 exact ⟨rfl,uP hB _⟩
theorem aLh (b m base n:Nat) (v:Value) (T:TypeId) (r:Rd) (l:List UInt8) (at_:Int) (w:World) (G:aZ w) (R:dP w b m base n v T r) (hl:l.length<=1000000) (a c x0 x1 x2 x3 x4:Int) (hs:bB l=some (3,a,c,[x0,x1,x2,x3,x4])) (h0:0<r.at_ 3) :
 Calls Tryz.prog 82 #[.pointer (some ⟨b,0,none⟩),sv l,.int .i64 at_] w fun e w'=>e = .returned (.int .i64 4)/\Below w.heap.size w w':=by
 have hnot : ∀ (x:Bool) (w:World),(Op.unary .not (.bool x)).run Tryz.prog w = .ok (.bool (!x)) w:=fun _ _=>rfl
 go_enter Tryz.func82,Tryz.ntmps82
 go_wp2_with (go_at_call 113;refine (uV l _ G hl).mono ?_;rintro e w1 ⟨hb1,he⟩;rw [hs] at he;simp only [eF,List.map_cons,List.map_nil] at he;subst he)
 obtain ⟨W,hW⟩ : ∃ W,W=w1.alloc (.cells #[.int .i64 3,.int .i64 a,.int .i64 c,.int .u32 x0,.int .u32 x1,.int .u32 x2,.int .u32 x3,.int .u32 x4] 199):=⟨_,rfl⟩
 rw [← hW]
 obtain ⟨hcb,hc8,hD,hrow,hlk,hB,hlt⟩:=vX R hb1 _ hW
 have hl2:=hlk 3 (by decide)
 have k0:W.cell? ⟨w1.heap.size,0,none⟩=some (.int .i64 3):=by rw [hW,World.cell?_alloc_at _ _ _ _ rfl];rfl
 clear hlk hW
 generalize r.at_ 3=y at *
 go_quiet (fail)
 go_wp2
 go_ret
 exact ⟨rfl,uP hB _⟩
theorem aMu (b m base n:Nat) (v:Value) (T:TypeId) (r:Rd) (l:List UInt8) (at_:Int) (w:World) (G:aZ w) (R:dP w b m base n v T r) (hl:l.length<=1000000) (a c x0 x1 x2 x3 x4:Int) (hs:bB l=some (4,a,c,[x0,x1,x2,x3,x4])) (h0:0<r.at_ 4) :
 Calls Tryz.prog 82 #[.pointer (some ⟨b,0,none⟩),sv l,.int .i64 at_] w fun e w'=>e = .returned (.int .i64 4)/\Below w.heap.size w w':=by
 have hnot : ∀ (x:Bool) (w:World),(Op.unary .not (.bool x)).run Tryz.prog w = .ok (.bool (!x)) w:=fun _ _=>rfl
 go_enter Tryz.func82,Tryz.ntmps82
 go_wp2_with (go_at_call 113;refine (uV l _ G hl).mono ?_;rintro e w1 ⟨hb1,he⟩;rw [hs] at he;simp only [eF,List.map_cons,List.map_nil] at he;subst he)
 obtain ⟨W,hW⟩ : ∃ W,W=w1.alloc (.cells #[.int .i64 4,.int .i64 a,.int .i64 c,.int .u32 x0,.int .u32 x1,.int .u32 x2,.int .u32 x3,.int .u32 x4] 199):=⟨_,rfl⟩
 rw [← hW]
 obtain ⟨hcb,hc8,hD,hrow,hlk,hB,hlt⟩:=vX R hb1 _ hW
 have hl2:=hlk 4 (by decide)
 have k0:W.cell? ⟨w1.heap.size,0,none⟩=some (.int .i64 4):=by rw [hW,World.cell?_alloc_at _ _ _ _ rfl];rfl
 clear hlk hW
 generalize r.at_ 4=y at *
 go_quiet (fail)
 go_wp2
 go_ret
 exact ⟨rfl,uP hB _⟩
theorem Hr {b m base n:Nat} {v:Value} {T:TypeId} {r:Rd} {w W2 w3:World} (R:dP w b m base n v T r) (hB2:Below w.heap.size w W2)
 (hcb2:W2.heap[b]? = some (.cells (.int .i64 r.u :: .int .i64 r.x::v::(eF r.ws ++ [.map (some m)])).toArray T (0,0))) (hrow2:W2.ownsRow base 51 2 v r.es.length (bR r.es)) (hturn:W2.drew.mapTurned w3 m) :
 w3.heap[b]? = some (.cells (.int .i64 r.u :: .int .i64 r.x::v::(eF r.ws ++ [.map (some m)])).toArray T (0,0))/\w3.ownsRow base 51 2 v r.es.length (bR r.es)/\fV w w3 b m v/\(∀ q i x,q≠m->W2.cell? ⟨q,i,none⟩=some x->w3.cell? ⟨q,i,none⟩=some x) /\
  w3.cell? ⟨b,0,none⟩=some (.int .i64 r.u)/\w3.cell? ⟨b,1,none⟩=some (.int .i64 r.x)/\w3.cell? ⟨b,2,none⟩=some v/\(∀ i,w3.frozen? ⟨b,i,none⟩=false)/\(∀ j:Nat,j<5 -> ∃ y,w3.cell? ⟨b,3+j,none⟩=some y):=by
 have hg:=hturn.grown
 have hm:m<w.heap.size:=by obtain ⟨D,hD,_⟩:=R.map;exact hD.lt
 have hlt:b<w.heap.size:=(Array.getElem?_eq_some_iff.1 R.cells).1
 have hbW:b<W2.heap.size:=Nat.lt_of_lt_of_le hlt hB2.size
 have hc:w3.heap[b]? = some (.cells (.int .i64 r.u :: .int .i64 r.x::v::(eF r.ws ++ [.map (some m)])).toArray T (0,0)):=(hg.block b hbW (by simp;have:=R.lt.1;omega)).trans hcb2
 have hrow:w3.ownsRow base 51 2 v r.es.length (bR r.es):=by
  refine World.ownsRow.kept (w:=W2.drew) hrow2 hg ?_
  cases hv:v.ownBlock with
  | none=>exact .inl rfl
  | some k=>
   right
   have:=(hrow2.lt k hv).1
   have:=R.lt
   simp;omega
 refine ⟨hc,hrow,⟨hg.os.trans hB2.os,hg.tape.trans hB2.tape,hg.output.trans hB2.output,Nat.le_trans hB2.size hg.size,fun k hk _ hm' _=>(hg.block k (Nat.lt_of_lt_of_le hk hB2.size) (by simpa using hm')).trans (hB2.block k hk)⟩,fun q i x hq hx=>hg.cell (by exact hx) (by simpa using hq),?_,?_,?_,fun i=> ?_,fun j hj=> ?_⟩
 ·unfold World.cell?;rw [hc];rfl
 ·unfold World.cell?;rw [hc];rfl
 ·unfold World.cell?;rw [hc];rfl
 ·unfold World.frozen?;rw [hc];simp
 ·have h5:=R.len
  match hw:r.ws,h5 with
  | [y0,y1,y2,y3,y4],_=>
   rw [hw] at hc
   rcases j with _ | _ | _ | _ | _ | j
   ·exact ⟨.int .u32 y0,by unfold World.cell?;rw [hc];rfl⟩
   ·exact ⟨.int .u32 y1,by unfold World.cell?;rw [hc];rfl⟩
   ·exact ⟨.int .u32 y2,by unfold World.cell?;rw [hc];rfl⟩
   ·exact ⟨.int .u32 y3,by unfold World.cell?;rw [hc];rfl⟩
   ·exact ⟨.int .u32 y4,by unfold World.cell?;rw [hc];rfl⟩
   ·omega
theorem Mu {b m base n:Nat} {v:Value} {T:TypeId} {r r':Rd} {w w3:World} {D:DataW Unit} (R:dP w b m base n v T r) (h:w3.heap[b]? = some (.cells (.int .i64 r.u :: .int .i64 r.x::v::(eF r.ws ++ [.map (some m)])).toArray T (0,0)))
 (hrow:w3.ownsRow base 51 2 v r.es.length (bR r.es)) (hD:w3.ownsMap Tryz.prog 3 (plainElem (H:=Unit) Tryz.prog 3) m (n+1) D) (hA:zQ D r'.at_) (ht:fV w w3 b m v) (zs:List Value) (o:Nat)
 (hz:(.int .i64 r.u :: .int .i64 r.x::v::(eF r.ws ++ [.map (some m)])).take o++zs++(.int .i64 r.u :: .int .i64 r.x::v::(eF r.ws ++ [.map (some m)])).drop (o+zs.length) = .int .i64 r'.u :: .int .i64 r'.x::v::(eF r'.ws ++ [.map (some m)])) (ho:o+zs.length<=9) (he:r'.es=r.es) (hw5:r'.ws.length=5) :
 dP (w3.setCells b o zs) b m base (n+1) v T r'/\fV w (w3.setCells b o zs) b m v:=by
 have hlen:=R.len
 obtain ⟨q1,q2,q3,q4⟩:=qG zs b o w3 _ T h (by simp [hlen];omega)
 have hlt:b<w3.heap.size:=(Array.getElem?_eq_some_iff.1 h).1
 have hg:w3.grownBy (w3.setCells b o zs) (some b):=⟨q4.os,q4.tape,q4.output,Nat.le_of_eq q3.symm,fun k _ hk=>q2 k (by simpa using hk)⟩
 have hl:=R.lt
 refine ⟨⟨by rw [q1,hz],⟨D,hD.kept hg (by simp;omega),hA⟩,?_,hw5,⟨hl.1,hl.2.1,?_⟩,R.ge⟩,⟨q4.os.trans ht.os,q4.tape.trans ht.tape,q4.output.trans ht.output,by rw [q3];exact ht.size,fun k hk h1 h2 h3=>(q2 k h1).trans (ht.block k hk h1 h2 h3)⟩⟩
 ·rw [he]
  refine hrow.kept hg ?_
  cases hv:v.ownBlock with
  | none=>exact .inl rfl
  | some k=>
   right
   have:=(hrow.lt k hv).1
   simp;omega
 ·rw [q3];exact Nat.le_trans hl.2.2 ht.size
theorem Gd {w:World} {m n:Nat} {D:DataW Unit} {f:Int->Int} (h:w.ownsMap Tryz.prog 3 (plainElem (H:=Unit) Tryz.prog 3) m n D) (hA:zQ D f) (k x:Int):zQ (D.put (.int .i64 k) (.lit (.int .i64 x))) (fun j=>if j=k then x else f j):=aJ6 hA h.isMap k x
theorem aKK (b m base n:Nat) (v:Value) (T:TypeId) (r:Rd) (l:List UInt8) (at_:Int) (w:World) (G:aZ w) (R:dP w b m base n v T r) (hl:l.length<=1000000) (a c x0 x1 x2 x3 x4:Int) (hs:bB l=some (1,a,c,[x0,x1,x2,x3,x4])) (hn:n<maxLen) (hwa:(Lit.int .i64 at_).wf=true) :
 Calls Tryz.prog 82 #[.pointer (some ⟨b,0,none⟩),sv l,.int .i64 at_] w fun e w'=>e = .returned (.int .i64 0)/\dP w' b m base (n+1) v T (bM r (bB l) at_).1/\(bM r (bB l) at_).2=0/\fV w w' b m v:=by
 have hnot : ∀ (x:Bool) (w:World),(Op.unary .not (.bool x)).run Tryz.prog w = .ok (.bool (!x)) w:=fun _ _=>rfl
 go_enter Tryz.func82,Tryz.ntmps82
 go_wp2_with (go_at_call 113;refine (uV l _ G hl).mono ?_;rintro e w1 ⟨hb1,he⟩;rw [hs] at he;simp only [eF,List.map_cons,List.map_nil] at he;subst he)
 obtain ⟨W,hW⟩ : ∃ W,W=w1.alloc (.cells #[.int .i64 1,.int .i64 a,.int .i64 c,.int .u32 x0,.int .u32 x1,.int .u32 x2,.int .u32 x3,.int .u32 x4] 199):=⟨_,rfl⟩
 rw [← hW]
 obtain ⟨hcb,hc8,hD,hrow,hlk,hB,hlt⟩:=vX R hb1 _ hW
 have k0:W.cell? ⟨w1.heap.size,0,none⟩=some (.int .i64 1):=by rw [hW,World.cell?_alloc_at _ _ _ _ rfl];rfl
 clear hlk hW
 go_quiet (fail)
 go_wp2
 obtain ⟨W2,hW2⟩ : ∃ W2,W2=W.drewN nq:=⟨_,rfl⟩
 rw [← hW2]
 have hB2:Below w.heap.size w W2:=by rw [hW2];exact uP hB _
 have hh:W2.heap=W.heap:=by rw [hW2];rfl
 have k0':W2.cell? ⟨w1.heap.size,0,none⟩=some (.int .i64 1):=by rw [hW2];exact k0
 have c8':W2.cell? ⟨b,8,none⟩=some (.map (some m)):=by rw [hW2];exact hc8
 obtain ⟨D,hD,hA⟩:=hD
 have hD2:W2.drew.ownsMap Tryz.prog 3 (plainElem (H:=Unit) Tryz.prog 3) m n D:=by rw [hW2];exact hD
 obtain ⟨w3,hup,hD3,hturn⟩:=hD2.store xJ Tryz.underlying155 hn (keyOf_int_mk Tryz.underlying3 (a:=1) (by decide)) (plainElem_int Tryz.underlying3 hwa)
 have hcb2:W2.heap[b]? = some (.cells (.int .i64 r.u :: .int .i64 r.x::v::(eF r.ws ++ [.map (some m)])).toArray T (0,0)):=by rw [hh];exact hcb
 have hrow2:W2.ownsRow base 51 2 v r.es.length (bR r.es):=by rw [hW2];exact hrow
 clear hW2 hcb hc8 hD hrow hB k0 hh
 go_region
 obtain ⟨hcb3,hrow3,ht3,hcell,d0,d1,d2,hfz,d3⟩:=Hr R hB2 hcb2 hrow2 hturn
 have hq:w1.heap.size≠m:=by have:=R.lt;have:=hb1.size;omega
 have e0:=hcell _ _ _ hq k0'
 have hA':=Gd hD2 hA 1 at_
 clear hcell hfz d3 hup hturn hcb2 hrow2 k0' c8' hD2 hA
 go_wp2
 go_ret
 rw [hs]
 have hS:bM r (some (1,a,c,[x0,x1,x2,x3,x4])) at_=({ r with at_:=fun j=>if j=1 then at_ else r.at_ j },0):=by simp [bM]
 rw [hS]
 obtain ⟨g1,g2⟩:=Mu (r':= { r with at_:=fun j=>if j=1 then at_ else r.at_ j }) R hcb3 hrow3 hD3 hA' ht3 [] 0 (by simp) (by simp) rfl (by simp [R.len])
 exact ⟨rfl,g1,rfl,g2⟩
theorem aHl (b m base n:Nat) (v:Value) (T:TypeId) (r:Rd) (l:List UInt8) (at_:Int) (w:World) (G:aZ w) (R:dP w b m base n v T r) (hl:l.length<=1000000) (a c x0 x1 x2 x3 x4:Int) (hs:bB l=some (2,a,c,[x0,x1,x2,x3,x4])) (h0 : ¬ 0<r.at_ 2) (hn:n<maxLen) (hwa:(Lit.int .i64 at_).wf=true) :
 Calls Tryz.prog 82 #[.pointer (some ⟨b,0,none⟩),sv l,.int .i64 at_] w fun e w'=>e = .returned (.int .i64 0)/\dP w' b m base (n+1) v T (bM r (bB l) at_).1/\(bM r (bB l) at_).2=0/\fV w w' b m v:=by
 have hnot : ∀ (x:Bool) (w:World),(Op.unary .not (.bool x)).run Tryz.prog w = .ok (.bool (!x)) w:=fun _ _=>rfl
 go_enter Tryz.func82,Tryz.ntmps82
 go_wp2_with (go_at_call 113;refine (uV l _ G hl).mono ?_;rintro e w1 ⟨hb1,he⟩;rw [hs] at he;simp only [eF,List.map_cons,List.map_nil] at he;subst he)
 obtain ⟨W,hW⟩ : ∃ W,W=w1.alloc (.cells #[.int .i64 2,.int .i64 a,.int .i64 c,.int .u32 x0,.int .u32 x1,.int .u32 x2,.int .u32 x3,.int .u32 x4] 199):=⟨_,rfl⟩
 rw [← hW]
 obtain ⟨hcb,hc8,hD,hrow,hlk,hB,hlt⟩:=vX R hb1 _ hW
 have hl2:=hlk 2 (by decide)
 have k0:W.cell? ⟨w1.heap.size,0,none⟩=some (.int .i64 2):=by rw [hW,World.cell?_alloc_at _ _ _ _ rfl];rfl
 have k1:W.cell? ⟨w1.heap.size,1,none⟩=some (.int .i64 a):=by rw [hW,World.cell?_alloc_at _ _ _ _ rfl];rfl
 clear hlk hW
 generalize hy:r.at_ 2=y at *
 go_quiet (fail)
 go_wp2
 obtain ⟨W2,hW2⟩ : ∃ W2,W2=W.drewN nq:=⟨_,rfl⟩
 rw [← hW2]
 have hB2:Below w.heap.size w W2:=by rw [hW2];exact uP hB _
 have hh:W2.heap=W.heap:=by rw [hW2];rfl
 have k0':W2.cell? ⟨w1.heap.size,0,none⟩=some (.int .i64 2):=by rw [hW2];exact k0
 have k1':W2.cell? ⟨w1.heap.size,1,none⟩=some (.int .i64 a):=by rw [hW2];exact k1
 have c8':W2.cell? ⟨b,8,none⟩=some (.map (some m)):=by rw [hW2];exact hc8
 obtain ⟨D,hD,hA⟩:=hD
 have hD2:W2.drew.ownsMap Tryz.prog 3 (plainElem (H:=Unit) Tryz.prog 3) m n D:=by rw [hW2];exact hD
 obtain ⟨w3,hup,hD3,hturn⟩:=hD2.store xJ Tryz.underlying155 hn (keyOf_int_mk Tryz.underlying3 (a:=2) (by decide)) (plainElem_int Tryz.underlying3 hwa)
 have hcb2:W2.heap[b]? = some (.cells (.int .i64 r.u :: .int .i64 r.x::v::(eF r.ws ++ [.map (some m)])).toArray T (0,0)):=by rw [hh];exact hcb
 have hrow2:W2.ownsRow base 51 2 v r.es.length (bR r.es):=by rw [hW2];exact hrow
 clear hW2 hcb hc8 hD hrow hB hl2 k0 k1 hh
 go_region
 obtain ⟨hcb3,hrow3,ht3,hcell,d0,d1,d2,hfz,d3⟩:=Hr R hB2 hcb2 hrow2 hturn
 have hq:w1.heap.size≠m:=by have:=R.lt;have:=hb1.size;omega
 have e0:=hcell _ _ _ hq k0'
 have e1:=hcell _ _ _ hq k1'
 have f0:=hfz 0
 have hA':=Gd hD2 hA 2 at_
 clear hcell hfz d3 hup hturn hcb2 hrow2 k0' k1' c8' hD2 hA
 go_wp2
 go_ret
 rw [hs]
 have hS:bM r (some (2,a,c,[x0,x1,x2,x3,x4])) at_=({ r with at_:=fun j=>if j=2 then at_ else r.at_ j,u:=a },0):=by simp [bM,hy,h0]
 rw [hS]
 obtain ⟨g1,g2⟩:=Mu (r':= { r with at_:=fun j=>if j=2 then at_ else r.at_ j,u:=a }) R hcb3 hrow3 hD3 hA' ht3 [.int .i64 a] 0 (by simp) (by simp) rfl (by simp [R.len])
 exact ⟨rfl,g1,rfl,g2⟩
theorem aHa (b m base n:Nat) (v:Value) (T:TypeId) (r:Rd) (l:List UInt8) (at_:Int) (w:World) (G:aZ w) (R:dP w b m base n v T r) (hl:l.length<=1000000) (a c x0 x1 x2 x3 x4:Int) (hs:bB l=some (3,a,c,[x0,x1,x2,x3,x4])) (h0 : ¬ 0<r.at_ 3) (hn:n<maxLen) (hwa:(Lit.int .i64 at_).wf=true) :
 Calls Tryz.prog 82 #[.pointer (some ⟨b,0,none⟩),sv l,.int .i64 at_] w fun e w'=>e = .returned (.int .i64 0)/\dP w' b m base (n+1) v T (bM r (bB l) at_).1/\(bM r (bB l) at_).2=0/\fV w w' b m v:=by
 have hnot : ∀ (x:Bool) (w:World),(Op.unary .not (.bool x)).run Tryz.prog w = .ok (.bool (!x)) w:=fun _ _=>rfl
 go_enter Tryz.func82,Tryz.ntmps82
 go_wp2_with (go_at_call 113;refine (uV l _ G hl).mono ?_;rintro e w1 ⟨hb1,he⟩;rw [hs] at he;simp only [eF,List.map_cons,List.map_nil] at he;subst he)
 obtain ⟨W,hW⟩ : ∃ W,W=w1.alloc (.cells #[.int .i64 3,.int .i64 a,.int .i64 c,.int .u32 x0,.int .u32 x1,.int .u32 x2,.int .u32 x3,.int .u32 x4] 199):=⟨_,rfl⟩
 rw [← hW]
 obtain ⟨hcb,hc8,hD,hrow,hlk,hB,hlt⟩:=vX R hb1 _ hW
 have hl2:=hlk 3 (by decide)
 have k0:W.cell? ⟨w1.heap.size,0,none⟩=some (.int .i64 3):=by rw [hW,World.cell?_alloc_at _ _ _ _ rfl];rfl
 have k1:W.cell? ⟨w1.heap.size,1,none⟩=some (.int .i64 a):=by rw [hW,World.cell?_alloc_at _ _ _ _ rfl];rfl
 clear hlk hW
 generalize hy:r.at_ 3=y at *
 go_quiet (fail)
 go_wp2
 obtain ⟨W2,hW2⟩ : ∃ W2,W2=W.drewN nq:=⟨_,rfl⟩
 rw [← hW2]
 have hB2:Below w.heap.size w W2:=by rw [hW2];exact uP hB _
 have hh:W2.heap=W.heap:=by rw [hW2];rfl
 have k0':W2.cell? ⟨w1.heap.size,0,none⟩=some (.int .i64 3):=by rw [hW2];exact k0
 have k1':W2.cell? ⟨w1.heap.size,1,none⟩=some (.int .i64 a):=by rw [hW2];exact k1
 have c8':W2.cell? ⟨b,8,none⟩=some (.map (some m)):=by rw [hW2];exact hc8
 obtain ⟨D,hD,hA⟩:=hD
 have hD2:W2.drew.ownsMap Tryz.prog 3 (plainElem (H:=Unit) Tryz.prog 3) m n D:=by rw [hW2];exact hD
 obtain ⟨w3,hup,hD3,hturn⟩:=hD2.store xJ Tryz.underlying155 hn (keyOf_int_mk Tryz.underlying3 (a:=3) (by decide)) (plainElem_int Tryz.underlying3 hwa)
 have hcb2:W2.heap[b]? = some (.cells (.int .i64 r.u :: .int .i64 r.x::v::(eF r.ws ++ [.map (some m)])).toArray T (0,0)):=by rw [hh];exact hcb
 have hrow2:W2.ownsRow base 51 2 v r.es.length (bR r.es):=by rw [hW2];exact hrow
 clear hW2 hcb hc8 hD hrow hB hl2 k0 k1 hh
 go_region
 obtain ⟨hcb3,hrow3,ht3,hcell,d0,d1,d2,hfz,d3⟩:=Hr R hB2 hcb2 hrow2 hturn
 have hq:w1.heap.size≠m:=by have:=R.lt;have:=hb1.size;omega
 have e0:=hcell _ _ _ hq k0'
 have e1:=hcell _ _ _ hq k1'
 have f0:=hfz 1
 have hA':=Gd hD2 hA 3 at_
 clear hcell hfz d3 hup hturn hcb2 hrow2 k0' k1' c8' hD2 hA
 go_wp2
 go_ret
 rw [hs]
 have hS:bM r (some (3,a,c,[x0,x1,x2,x3,x4])) at_=({ r with at_:=fun j=>if j=3 then at_ else r.at_ j,x:=a },0):=by simp [bM,hy,h0]
 rw [hS]
 obtain ⟨g1,g2⟩:=Mu (r':= { r with at_:=fun j=>if j=3 then at_ else r.at_ j,x:=a }) R hcb3 hrow3 hD3 hA' ht3 [.int .i64 a] 1 (by simp) (by simp) rfl (by simp [R.len])
 exact ⟨rfl,g1,rfl,g2⟩
theorem aGF (b m base n:Nat) (v:Value) (T:TypeId) (r:Rd) (l:List UInt8) (at_:Int) (w:World) (G:aZ w) (R:dP w b m base n v T r) (hl:l.length<=1000000) (a c x0 x1 x2 x3 x4:Int) (hs:bB l=some (4,a,c,[x0,x1,x2,x3,x4])) (h0 : ¬ 0<r.at_ 4) (hn:n<maxLen) (hwa:(Lit.int .i64 at_).wf=true) :
 Calls Tryz.prog 82 #[.pointer (some ⟨b,0,none⟩),sv l,.int .i64 at_] w fun e w'=>e = .returned (.int .i64 0)/\dP w' b m base (n+1) v T (bM r (bB l) at_).1/\(bM r (bB l) at_).2=0/\fV w w' b m v:=by
 have hnot : ∀ (x:Bool) (w:World),(Op.unary .not (.bool x)).run Tryz.prog w = .ok (.bool (!x)) w:=fun _ _=>rfl
 go_enter Tryz.func82,Tryz.ntmps82
 go_wp2_with (go_at_call 113;refine (uV l _ G hl).mono ?_;rintro e w1 ⟨hb1,he⟩;rw [hs] at he;simp only [eF,List.map_cons,List.map_nil] at he;subst he)
 obtain ⟨W,hW⟩ : ∃ W,W=w1.alloc (.cells #[.int .i64 4,.int .i64 a,.int .i64 c,.int .u32 x0,.int .u32 x1,.int .u32 x2,.int .u32 x3,.int .u32 x4] 199):=⟨_,rfl⟩
 rw [← hW]
 obtain ⟨hcb,hc8,hD,hrow,hlk,hB,hlt⟩:=vX R hb1 _ hW
 have hl2:=hlk 4 (by decide)
 have k0:W.cell? ⟨w1.heap.size,0,none⟩=some (.int .i64 4):=by rw [hW,World.cell?_alloc_at _ _ _ _ rfl];rfl
 have k3:W.cell? ⟨w1.heap.size,3,none⟩=some (.int .u32 x0):=by rw [hW,World.cell?_alloc_at _ _ _ _ rfl];rfl
 have k4:W.cell? ⟨w1.heap.size,4,none⟩=some (.int .u32 x1):=by rw [hW,World.cell?_alloc_at _ _ _ _ rfl];rfl
 have k5:W.cell? ⟨w1.heap.size,5,none⟩=some (.int .u32 x2):=by rw [hW,World.cell?_alloc_at _ _ _ _ rfl];rfl
 have k6:W.cell? ⟨w1.heap.size,6,none⟩=some (.int .u32 x3):=by rw [hW,World.cell?_alloc_at _ _ _ _ rfl];rfl
 have k7:W.cell? ⟨w1.heap.size,7,none⟩=some (.int .u32 x4):=by rw [hW,World.cell?_alloc_at _ _ _ _ rfl];rfl
 clear hlk hW
 generalize hy:r.at_ 4=y at *
 go_quiet (fail)
 go_wp2
 obtain ⟨W2,hW2⟩ : ∃ W2,W2=W.drewN nq:=⟨_,rfl⟩
 rw [← hW2]
 have hB2:Below w.heap.size w W2:=by rw [hW2];exact uP hB _
 have hh:W2.heap=W.heap:=by rw [hW2];rfl
 have k0':W2.cell? ⟨w1.heap.size,0,none⟩=some (.int .i64 4):=by rw [hW2];exact k0
 have k3':W2.cell? ⟨w1.heap.size,3,none⟩=some (.int .u32 x0):=by rw [hW2];exact k3
 have k4':W2.cell? ⟨w1.heap.size,4,none⟩=some (.int .u32 x1):=by rw [hW2];exact k4
 have k5':W2.cell? ⟨w1.heap.size,5,none⟩=some (.int .u32 x2):=by rw [hW2];exact k5
 have k6':W2.cell? ⟨w1.heap.size,6,none⟩=some (.int .u32 x3):=by rw [hW2];exact k6
 have k7':W2.cell? ⟨w1.heap.size,7,none⟩=some (.int .u32 x4):=by rw [hW2];exact k7
 have c8':W2.cell? ⟨b,8,none⟩=some (.map (some m)):=by rw [hW2];exact hc8
 obtain ⟨D,hD,hA⟩:=hD
 have hD2:W2.drew.ownsMap Tryz.prog 3 (plainElem (H:=Unit) Tryz.prog 3) m n D:=by rw [hW2];exact hD
 obtain ⟨w3,hup,hD3,hturn⟩:=hD2.store xJ Tryz.underlying155 hn (keyOf_int_mk Tryz.underlying3 (a:=4) (by decide)) (plainElem_int Tryz.underlying3 hwa)
 have hcb2:W2.heap[b]? = some (.cells (.int .i64 r.u :: .int .i64 r.x::v::(eF r.ws ++ [.map (some m)])).toArray T (0,0)):=by rw [hh];exact hcb
 have hrow2:W2.ownsRow base 51 2 v r.es.length (bR r.es):=by rw [hW2];exact hrow
 clear hW2 hcb hc8 hD hrow hB hl2 k0 k3 k4 k5 k6 k7 hh
 go_region
 obtain ⟨hcb3,hrow3,ht3,hcell,d0,d1,d2,hfz,d3⟩:=Hr R hB2 hcb2 hrow2 hturn
 have hq:w1.heap.size≠m:=by have:=R.lt;have:=hb1.size;omega
 have e0:=hcell _ _ _ hq k0'
 have e3:=hcell _ _ _ hq k3'
 have e4:=hcell _ _ _ hq k4'
 have e5:=hcell _ _ _ hq k5'
 have e6:=hcell _ _ _ hq k6'
 have e7:=hcell _ _ _ hq k7'
 have f0:=hfz 3
 obtain ⟨y0,g0⟩:=d3 0 (by decide)
 have f1:=hfz 4
 obtain ⟨y1,g1⟩:=d3 1 (by decide)
 have f2:=hfz 5
 obtain ⟨y2,g2⟩:=d3 2 (by decide)
 have f3:=hfz 6
 obtain ⟨y3,g3⟩:=d3 3 (by decide)
 have f4:=hfz 7
 obtain ⟨y4,g4⟩:=d3 4 (by decide)
 simp only [Nat.reduceAdd] at g0 g1 g2 g3 g4
 have hA':=Gd hD2 hA 4 at_
 clear hcell hfz d3 hup hturn hcb2 hrow2 k0' k3' k4' k5' k6' k7' c8' hD2 hA
 go_wp2
 go_ret
 rw [hs]
 have hS:bM r (some (4,a,c,[x0,x1,x2,x3,x4])) at_=({ r with at_:=fun j=>if j=4 then at_ else r.at_ j,ws:= [x0,x1,x2,x3,x4] },0):=by simp [bM,hy,h0]
 rw [hS]
 obtain ⟨g1,g2⟩:=Mu (r':= { r with at_:=fun j=>if j=4 then at_ else r.at_ j,ws:= [x0,x1,x2,x3,x4] }) R hcb3 hrow3 hD3 hA' ht3 [.int .u32 x0,.int .u32 x1,.int .u32 x2,.int .u32 x3,.int .u32 x4] 3 (by have h5:=R.len;match hw:r.ws,h5 with | [z0,z1,z2,z3,z4],_=>rfl) (by simp) rfl (by simp [R.len])
 exact ⟨rfl,g1,rfl,g2⟩
theorem Vj : ∃ i0,Tryz.prog.info? 51=some i0/\i0.zero=some (.agg #[.int .i64 0,.int .i64 0])/\i0.size=2/\i0.bytes=16:=by
 have h:(Tryz.prog.info? 51).map (fun i=>(i.zero,i.size,i.bytes))=some (some (.agg #[.int .i64 0,.int .i64 0]),2,16):=by kernel_rfl
 cases hi:Tryz.prog.info? 51 with
 | none=>rw [hi] at h;cases h
 | some i=>
  rw [hi] at h
  simp only [Option.map_some,Option.some.injEq,Prod.mk.injEq] at h
  exact ⟨i,rfl,h.1,h.2.1,h.2.2⟩
theorem aP1 (es:List En) (a b:Int) (ev:Value) (base:Nat) (e:TypeId) (w:World) (G:aZ w) (hrow:w.ownsRow base e 2 ev es.length (bR es)) (hp:pE es) (hl:tC es) (hn:es.length<=1000) (ha:bD a) (hb:bD b) (h : ¬ cQ es (a,b)) :
 Calls Tryz.prog 114 #[ev,.agg #[.int .i64 a,.int .i64 b]] w fun r w'=>r = .returned (.bool false)/\Below w.heap.size w w':=
 (W6 es a b ev base e w G hrow hp hl hn ha hb).mono fun r w' h'=>⟨h'.1.trans (by rw [decide_eq_false h]),h'.2⟩
theorem aHj (es:List En) (a b:Int) (ev:Value) (base:Nat) (e:TypeId) (w:World) (G:aZ w) (hrow:w.ownsRow base e 2 ev es.length (bR es)) (hp:pE es) (hl:tC es) (hn:es.length<=1000) (ha:bD a) (hb:bD b) (h:cQ es (a,b)) :
 Calls Tryz.prog 114 #[ev,.agg #[.int .i64 a,.int .i64 b]] w fun r w'=>r = .returned (.bool true)/\Below w.heap.size w w':=
 (W6 es a b ev base e w G hrow hp hl hn ha hb).mono fun r w' h'=>⟨h'.1.trans (by rw [decide_eq_true h]),h'.2⟩
theorem aQQ {w6 w7:World} {o:Obj} {row:Option Nat} {b:Nat} {v:Value} (hg:(w6.drew.alloc o).grownBy w7 row) (z:w6.cell? ⟨b,2,none⟩=some v) (f:w6.frozen? ⟨b,2,none⟩=false) (hne:some b≠row):w7.cell? ⟨b,2,none⟩=some v/\w7.frozen? ⟨b,2,none⟩=false:=by
 have hb:b<w6.drew.heap.size:=World.block_lt_of_cell? w6 _ z
 have hblk:w7.heap[b]? = (w6.drew.alloc o).heap[b]? := hg.block b (by simp;exact Nat.lt_succ_of_lt hb) hne
 constructor
 ·rw [World.cell?_of_block (a:=⟨b,2,none⟩) hblk,World.cell?_alloc_past _ _ _ hb];exact z
 ·rw [World.frozen?_of_block (a:=⟨b,2,none⟩) hblk,World.frozen?_alloc_past _ _ _ hb];exact f
theorem aPa {b m base n:Nat} {v:Value} {T:TypeId} {r:Rd} {w w3 w6 w7:World} {D:DataW Unit} {f:Int->Int} {o:Obj} {g cap:Nat} {a c:Int} (R:dP w b m base n v T r)
 (h3:w3.heap[b]? = some (.cells (.int .i64 r.u :: .int .i64 r.x::v::(eF r.ws ++ [.map (some m)])).toArray T (0,0))) (hrow3:w3.ownsRow base 51 2 v r.es.length (bR r.es)) (hD3:w3.ownsMap Tryz.prog 3 (plainElem (H:=Unit) Tryz.prog 3) m (n+1) D) (hA:zQ D f) (ht3:fV w w3 b m v)
 (hb5:Below w3.heap.size w3 w6) (hown7:w7.ownsRow base 51 2 (.slice (some ⟨g,0,none⟩) (r.es.length+1) cap) (r.es.length+1) (bR r.es ++ [.int .i64 a,.int .i64 c])) (hg:(w6.drew.alloc o).grownBy w7 v.ownBlock)
 (hat:v.ownBlock=some g∨g=w6.heap.size+1) :
 fV w (w7.setCell ⟨b,2,none⟩ (.slice (some ⟨g,0,none⟩) (r.es.length+1) cap)) b m v /\ ∃ v',dP (w7.setCell ⟨b,2,none⟩ (.slice (some ⟨g,0,none⟩) (r.es.length+1) cap)) b m base (n+1) v' T { r with at_:=f,es:=r.es ++ [(a,c)] } /\
  (v'.ownBlock=v.ownBlock ∨ ∃ g,v'.ownBlock=some g/\w.heap.size<=g):=by
 have hl:=R.lt
 have hlen:=R.len
 have hb3:b<w3.heap.size:=(Array.getElem?_eq_some_iff.1 h3).1
 have hm3:m<w3.heap.size:=hD3.lt
 have hA6:Below w3.heap.size w3 (w6.drew.alloc o):=hb5.drew.alloc hb5.size o
 have hgt : ∀ k,v.ownBlock=some k->base<=k:=fun k hk=>(hrow3.lt k hk).1
 have k7 : ∀ k,k<w3.heap.size->some k≠v.ownBlock->w7.heap[k]? = w3.heap[k]? := fun k hk hne=>(hg.block k (Nat.lt_of_lt_of_le hk hA6.size) hne).trans (hA6.block k hk)
 have hbv:some b≠v.ownBlock:=fun h=>by have:=hgt b h.symm;omega
 have hmv:some m≠v.ownBlock:=fun h=>by have:=hgt m h.symm;omega
 have hc7:=(k7 b hb3 hbv).trans h3
 have hs7:w3.heap.size<=w7.heap.size:=Nat.le_trans hA6.size hg.size
 obtain ⟨q1,q2,q3,q4⟩:=qG [.slice (some ⟨g,0,none⟩) (r.es.length+1) cap] b 2 w7 _ T hc7 (by simp)
 have hset:w7.setCells b 2 [.slice (some ⟨g,0,none⟩) (r.es.length+1) cap]=w7.setCell ⟨b,2,none⟩ (.slice (some ⟨g,0,none⟩) (r.es.length+1) cap):=rfl
 rw [hset] at q1 q2 q3 q4
 generalize w7.setCell ⟨b,2,none⟩ (.slice (some ⟨g,0,none⟩) (r.es.length+1) cap)=W at *
 have hW:w7.grownBy W (some b):=⟨q4.os,q4.tape,q4.output,Nat.le_of_eq q3.symm,fun k _ hk=>q2 k (by simpa using hk)⟩
 have h37:w3.grownBy w7 v.ownBlock:=⟨hg.os.trans hA6.os,hg.tape.trans hA6.tape,hg.output.trans hA6.output,hs7,k7⟩
 refine ⟨⟨q4.os.trans (h37.os.trans ht3.os),q4.tape.trans (h37.tape.trans ht3.tape),q4.output.trans (h37.output.trans ht3.output),by rw [q3];exact Nat.le_trans ht3.size hs7,fun k hk h1 h2 h3'=>(q2 k h1).trans ((k7 k (Nat.lt_of_lt_of_le hk ht3.size) h3').trans (ht3.block k hk h1 h2 h3'))⟩,.slice (some ⟨g,0,none⟩) (r.es.length+1) cap,⟨q1,⟨D,(hD3.kept h37 hmv).kept hW (by simp;omega),hA⟩,?_,hlen,⟨hl.1,hl.2.1,by rw [q3];exact Nat.le_trans hl.2.2 (Nat.le_trans ht3.size hs7)⟩,R.ge⟩,?_⟩
 ·have:=hown7.kept hW (by
   right
   have:=(hown7.lt g rfl).1
   simp [Value.ownBlock];omega)
  simpa [aAD,bR] using this
 ·rcases hat with h | h
  ·left;rw [h];rfl
  ·right
   refine ⟨g,rfl,?_⟩
   have:=ht3.size
   have:=hb5.size
   omega
theorem fV.below {w w' w'':World} {b m:Nat} {v:Value} (h:fV w w' b m v) (hb:Below w'.heap.size w' w''):fV w w'' b m v:=
 ⟨hb.os.trans h.os,hb.tape.trans h.tape,hb.output.trans h.output,Nat.le_trans h.size hb.size,fun k hk h1 h2 h3=>(hb.block k (Nat.lt_of_lt_of_le hk h.size)).trans (h.block k hk h1 h2 h3)⟩
theorem aPw (b m base n:Nat) (v:Value) (T:TypeId) (r:Rd) (l:List UInt8) (at_:Int) (w:World) (G:aZ w) (R:dP w b m base n v T r) (hl:l.length<=1000000) (a c x0 x1 x2 x3 x4:Int) (hs:bB l=some (5,a,c,[x0,x1,x2,x3,x4])) (hn:n<maxLen) (hp:pE r.es) (hla:tC r.es) (hen:r.es.length<=1000) (ha:bD a) (hcc:bD c) (hent : ¬ cQ r.es (a,c)) (hwa:(Lit.int .i64 at_).wf=true) :
 Calls Tryz.prog 82 #[.pointer (some ⟨b,0,none⟩),sv l,.int .i64 at_] w fun e w'=>e = .returned (.int .i64 10)/\(bM r (bB l) at_).2=10/\fV w w' b m v:=by
 have hnot : ∀ (x:Bool) (w:World),(Op.unary .not (.bool x)).run Tryz.prog w = .ok (.bool (!x)) w:=fun _ _=>rfl
 go_enter Tryz.func82,Tryz.ntmps82
 go_wp2_with (go_at_call 113;refine (uV l _ G hl).mono ?_;rintro e w1 ⟨hb1,he⟩;rw [hs] at he;simp only [eF,List.map_cons,List.map_nil] at he;subst he)
 obtain ⟨W,hW⟩ : ∃ W,W=w1.alloc (.cells #[.int .i64 5,.int .i64 a,.int .i64 c,.int .u32 x0,.int .u32 x1,.int .u32 x2,.int .u32 x3,.int .u32 x4] 199):=⟨_,rfl⟩
 rw [← hW]
 obtain ⟨hcb,hc8,hD,hrow,hlk,hB,hlt⟩:=vX R hb1 _ hW
 have k0:W.cell? ⟨w1.heap.size,0,none⟩=some (.int .i64 5):=by rw [hW,World.cell?_alloc_at _ _ _ _ rfl];rfl
 have k2:W.cell? ⟨w1.heap.size,2,none⟩=some (.int .i64 c):=by rw [hW,World.cell?_alloc_at _ _ _ _ rfl];rfl
 have k1:W.cell? ⟨w1.heap.size,1,none⟩=some (.int .i64 a):=by rw [hW,World.cell?_alloc_at _ _ _ _ rfl];rfl
 clear hlk hW
 go_quiet (fail)
 go_wp2
 obtain ⟨W2,hW2⟩ : ∃ W2,W2=W.drewN nq:=⟨_,rfl⟩
 rw [← hW2]
 have hB2:Below w.heap.size w W2:=by rw [hW2];exact uP hB _
 have hh:W2.heap=W.heap:=by rw [hW2];rfl
 have k0':W2.cell? ⟨w1.heap.size,0,none⟩=some (.int .i64 5):=by rw [hW2];exact k0
 have k2':W2.cell? ⟨w1.heap.size,2,none⟩=some (.int .i64 c):=by rw [hW2];exact k2
 have k1':W2.cell? ⟨w1.heap.size,1,none⟩=some (.int .i64 a):=by rw [hW2];exact k1
 have c8':W2.cell? ⟨b,8,none⟩=some (.map (some m)):=by rw [hW2];exact hc8
 obtain ⟨D,hD,hA⟩:=hD
 have hD2:W2.drew.ownsMap Tryz.prog 3 (plainElem (H:=Unit) Tryz.prog 3) m n D:=by rw [hW2];exact hD
 obtain ⟨w3,hup,hD3,hturn⟩:=hD2.store xJ Tryz.underlying155 hn (keyOf_int_mk Tryz.underlying3 (a:=5) (by decide)) (plainElem_int Tryz.underlying3 hwa)
 have hcb2:W2.heap[b]? = some (.cells (.int .i64 r.u :: .int .i64 r.x::v::(eF r.ws ++ [.map (some m)])).toArray T (0,0)):=by rw [hh];exact hcb
 have hrow2:W2.ownsRow base 51 2 v r.es.length (bR r.es):=by rw [hW2];exact hrow
 clear hW2 hcb hc8 hD hrow hB k0 k1 k2 hh
 go_region
 obtain ⟨hcb3,hrow3,ht3,hcell,d0,d1,d2,hfz,d3⟩:=Hr R hB2 hcb2 hrow2 hturn
 have hq:w1.heap.size≠m:=by have:=R.lt;have:=hb1.size;omega
 have e0:=hcell _ _ _ hq k0'
 have e2:=hcell _ _ _ hq k2'
 have e1:=hcell _ _ _ hq k1'
 have f2:=hfz 2
 have hA':=Gd hD2 hA 5 at_
 have hG3:aZ w3:=aZ.jA G ht3.size (fun k hk=>ht3.block k (Nat.lt_of_lt_of_le hk (aZ.le G)) (by have:=R.ge;have:=R.lt;omega) (by have:=R.ge;omega) (by
  intro hv
  have:=(hrow3.lt k hv.symm).1
  have:=R.ge
  have:=R.lt
  omega))
 clear hcell hfz d3 hup hturn hcb2 hrow2 k0' k1' k2' c8' hD2 hA
 go_wp2
 obtain ⟨w4,hw4⟩ : ∃ w4,w4=w3.alloc (.cells #[.int .i64 a,.int .i64 c] 51):=⟨_,rfl⟩
 rw [← hw4]
 have hb3:b<w3.heap.size:=(Array.getElem?_eq_some_iff.1 hcb3).1
 have z2:w4.cell? ⟨b,2,none⟩=some v:=by rw [hw4,World.cell?_alloc_past _ _ _ hb3];exact d2
 have f2':w4.frozen? ⟨b,2,none⟩=false:=by rw [hw4,World.frozen?_alloc_past _ _ _ hb3];exact f2
 have y0:w4.cell? ⟨w3.heap.size,0,none⟩=some (.int .i64 a):=by rw [hw4,World.cell?_alloc_at _ _ _ _ rfl];rfl
 have y1:w4.cell? ⟨w3.heap.size,1,none⟩=some (.int .i64 c):=by rw [hw4,World.cell?_alloc_at _ _ _ _ rfl];rfl
 have hrow4:w4.ownsRow base 51 2 v r.es.length (bR r.es):=by rw [hw4];exact hrow3.alloc _
 have hG4:aZ w4.drew:=by rw [hw4];exact (fun hbl:Below w3.heap.size w3 (w3.alloc (.cells #[.int .i64 a,.int .i64 c] 51))=>aZ.jA hG3 hbl.size (fun k hk=>hbl.block k (Nat.lt_of_lt_of_le hk (aZ.le hG3)))) ((Below.refl _ _).alloc (Nat.le_refl _) _)
 have hB4:Below w3.heap.size w3 w4.drew:=by rw [hw4];exact ((Below.refl _ _).alloc (Nat.le_refl _) _).drew
 clear hw4
 go_still_tail 6,(by kernel_rfl)
 change wpList _ _ _ _ _ w4.drew
 have z2:w4.drew.cell? ⟨b,2,none⟩=some v:=z2
 have f2':w4.drew.frozen? ⟨b,2,none⟩=false:=f2'
 have y0:w4.drew.cell? ⟨w3.heap.size,0,none⟩=some (.int .i64 a):=y0
 have y1:w4.drew.cell? ⟨w3.heap.size,1,none⟩=some (.int .i64 c):=y1
 have hrow4:w4.drew.ownsRow base 51 2 v r.es.length (bR r.es):=hrow4
 generalize w4.drew=w5 at *
 go_wp2_with fail
 refine (aP1 r.es a c v base 51 _ hG4 hrow4 hp hla hen ha hcc hent).mono ?_
 rintro e6 w6 ⟨rfl,hb6⟩
 go_wp2
 go_ret
 rw [hs]
 have hb5:Below w3.heap.size w3 w6:=hB4.trans (hb6.mono hB4.size)
 exact ⟨rfl,by simp [bM,hent],ht3.below hb5⟩
theorem aQp (b m base n:Nat) (v:Value) (T:TypeId) (r:Rd) (l:List UInt8) (at_:Int) (w:World) (G:aZ w) (R:dP w b m base n v T r) (hl:l.length<=1000000) (a c x0 x1 x2 x3 x4:Int) (hs:bB l=some (5,a,c,[x0,x1,x2,x3,x4])) (hn:n<maxLen) (hp:pE r.es) (hla:tC r.es) (hen:r.es.length<=1000) (ha:bD a) (hcc:bD c) (hent:cQ r.es (a,c)) (hwa:(Lit.int .i64 at_).wf=true) :
 Calls Tryz.prog 82 #[.pointer (some ⟨b,0,none⟩),sv l,.int .i64 at_] w fun e w'=>e = .returned (.int .i64 0)/\(bM r (bB l) at_).2=0/\fV w w' b m v /\ ∃ v',dP w' b m base (n+1) v' T (bM r (bB l) at_).1/\(v'.ownBlock=v.ownBlock ∨ ∃ g,v'.ownBlock=some g/\w.heap.size<=g):=by
 have hnot : ∀ (x:Bool) (w:World),(Op.unary .not (.bool x)).run Tryz.prog w = .ok (.bool (!x)) w:=fun _ _=>rfl
 go_enter Tryz.func82,Tryz.ntmps82
 go_wp2_with (go_at_call 113;refine (uV l _ G hl).mono ?_;rintro e w1 ⟨hb1,he⟩;rw [hs] at he;simp only [eF,List.map_cons,List.map_nil] at he;subst he)
 obtain ⟨W,hW⟩ : ∃ W,W=w1.alloc (.cells #[.int .i64 5,.int .i64 a,.int .i64 c,.int .u32 x0,.int .u32 x1,.int .u32 x2,.int .u32 x3,.int .u32 x4] 199):=⟨_,rfl⟩
 rw [← hW]
 obtain ⟨hcb,hc8,hD,hrow,hlk,hB,hlt⟩:=vX R hb1 _ hW
 have k0:W.cell? ⟨w1.heap.size,0,none⟩=some (.int .i64 5):=by rw [hW,World.cell?_alloc_at _ _ _ _ rfl];rfl
 have k2:W.cell? ⟨w1.heap.size,2,none⟩=some (.int .i64 c):=by rw [hW,World.cell?_alloc_at _ _ _ _ rfl];rfl
 have k1:W.cell? ⟨w1.heap.size,1,none⟩=some (.int .i64 a):=by rw [hW,World.cell?_alloc_at _ _ _ _ rfl];rfl
 clear hlk hW
 go_quiet (fail)
 go_wp2
 obtain ⟨W2,hW2⟩ : ∃ W2,W2=W.drewN nq:=⟨_,rfl⟩
 rw [← hW2]
 have hB2:Below w.heap.size w W2:=by rw [hW2];exact uP hB _
 have hh:W2.heap=W.heap:=by rw [hW2];rfl
 have k0':W2.cell? ⟨w1.heap.size,0,none⟩=some (.int .i64 5):=by rw [hW2];exact k0
 have k2':W2.cell? ⟨w1.heap.size,2,none⟩=some (.int .i64 c):=by rw [hW2];exact k2
 have k1':W2.cell? ⟨w1.heap.size,1,none⟩=some (.int .i64 a):=by rw [hW2];exact k1
 have c8':W2.cell? ⟨b,8,none⟩=some (.map (some m)):=by rw [hW2];exact hc8
 obtain ⟨D,hD,hA⟩:=hD
 have hD2:W2.drew.ownsMap Tryz.prog 3 (plainElem (H:=Unit) Tryz.prog 3) m n D:=by rw [hW2];exact hD
 obtain ⟨w3,hup,hD3,hturn⟩:=hD2.store xJ Tryz.underlying155 hn (keyOf_int_mk Tryz.underlying3 (a:=5) (by decide)) (plainElem_int Tryz.underlying3 hwa)
 have hcb2:W2.heap[b]? = some (.cells (.int .i64 r.u :: .int .i64 r.x::v::(eF r.ws ++ [.map (some m)])).toArray T (0,0)):=by rw [hh];exact hcb
 have hrow2:W2.ownsRow base 51 2 v r.es.length (bR r.es):=by rw [hW2];exact hrow
 clear hW2 hcb hc8 hD hrow hB k0 k1 k2 hh
 go_region
 obtain ⟨hcb3,hrow3,ht3,hcell,d0,d1,d2,hfz,d3⟩:=Hr R hB2 hcb2 hrow2 hturn
 have hq:w1.heap.size≠m:=by have:=R.lt;have:=hb1.size;omega
 have e0:=hcell _ _ _ hq k0'
 have e2:=hcell _ _ _ hq k2'
 have e1:=hcell _ _ _ hq k1'
 have f2:=hfz 2
 have hA':=Gd hD2 hA 5 at_
 have hG3:aZ w3:=aZ.jA G ht3.size (fun k hk=>ht3.block k (Nat.lt_of_lt_of_le hk (aZ.le G)) (by have:=R.ge;have:=R.lt;omega) (by have:=R.ge;omega) (by
  intro hv
  have:=(hrow3.lt k hv.symm).1
  have:=R.ge
  have:=R.lt
  omega))
 clear hcell hfz d3 hup hturn hcb2 hrow2 k0' k1' k2' c8' hD2 hA
 go_wp2
 obtain ⟨w4,hw4⟩ : ∃ w4,w4=w3.alloc (.cells #[.int .i64 a,.int .i64 c] 51):=⟨_,rfl⟩
 rw [← hw4]
 have hb3:b<w3.heap.size:=(Array.getElem?_eq_some_iff.1 hcb3).1
 have z2:w4.cell? ⟨b,2,none⟩=some v:=by rw [hw4,World.cell?_alloc_past _ _ _ hb3];exact d2
 have f2':w4.frozen? ⟨b,2,none⟩=false:=by rw [hw4,World.frozen?_alloc_past _ _ _ hb3];exact f2
 have y0:w4.cell? ⟨w3.heap.size,0,none⟩=some (.int .i64 a):=by rw [hw4,World.cell?_alloc_at _ _ _ _ rfl];rfl
 have y1:w4.cell? ⟨w3.heap.size,1,none⟩=some (.int .i64 c):=by rw [hw4,World.cell?_alloc_at _ _ _ _ rfl];rfl
 have hrow4:w4.ownsRow base 51 2 v r.es.length (bR r.es):=by rw [hw4];exact hrow3.alloc _
 have hG4:aZ w4.drew:=by rw [hw4];exact (fun hbl:Below w3.heap.size w3 (w3.alloc (.cells #[.int .i64 a,.int .i64 c] 51))=>aZ.jA hG3 hbl.size (fun k hk=>hbl.block k (Nat.lt_of_lt_of_le hk (aZ.le hG3)))) ((Below.refl _ _).alloc (Nat.le_refl _) _)
 have hB4:Below w3.heap.size w3 w4.drew:=by rw [hw4];exact ((Below.refl _ _).alloc (Nat.le_refl _) _).drew
 clear hw4
 go_still_tail 6,(by kernel_rfl)
 change wpList _ _ _ _ _ w4.drew
 have z2:w4.drew.cell? ⟨b,2,none⟩=some v:=z2
 have f2':w4.drew.frozen? ⟨b,2,none⟩=false:=f2'
 have y0:w4.drew.cell? ⟨w3.heap.size,0,none⟩=some (.int .i64 a):=y0
 have y1:w4.drew.cell? ⟨w3.heap.size,1,none⟩=some (.int .i64 c):=y1
 have hrow4:w4.drew.ownsRow base 51 2 v r.es.length (bR r.es):=hrow4
 generalize w4.drew=w5 at *
 go_wp2_with fail
 refine (aHj r.es a c v base 51 _ hG4 hrow4 hp hla hen ha hcc hent).mono ?_
 rintro e6 w6 ⟨rfl,hb6⟩
 go_wp2
 have hb5:Below w3.heap.size w3 w6:=hB4.trans (hb6.mono hB4.size)
 have h35:w3.heap.size<w5.heap.size:=World.block_lt_of_cell? _ _ y0
 have hb35:b<w5.heap.size:=World.block_lt_of_cell? _ _ z2
 have z2:w6.cell? ⟨b,2,none⟩=some v:=(World.cell?_of_block (hb6.block _ hb35)).trans z2
 have f2':w6.frozen? ⟨b,2,none⟩=false:=(World.frozen?_of_block (hb6.block _ hb35)).trans f2'
 have y0:w6.cell? ⟨w3.heap.size,0,none⟩=some (.int .i64 a):=(World.cell?_of_block (hb6.block _ h35)).trans y0
 have y1:w6.cell? ⟨w3.heap.size,1,none⟩=some (.int .i64 c):=(World.cell?_of_block (hb6.block _ h35)).trans y1
 have hrow6:w6.ownsRow base 51 2 v r.es.length (bR r.es):=hrow4.kept (row:=none) ⟨hb6.os,hb6.tape,hb6.output,hb6.size,fun k hk _=>hb6.block k hk⟩ (by cases v.ownBlock<;>simp)
 obtain ⟨i0,hi,hz0,hz1,hz2⟩:=Vj
 have hb66:base<=w6.heap.size:=by have:=R.lt;have:=ht3.size;have:=hb5.size;omega
 have za:(w6.alloc (.cells #[.int .i64 a,.int .i64 c] 51)).cell? ⟨b,2,none⟩=some v:=by rw [World.cell?_alloc_past _ _ _ (World.block_lt_of_cell? _ _ z2)];exact z2
 have hneb:some b≠v.ownBlock:=fun h=>by have:=(hrow6.lt b h.symm).1;have:=R.lt;omega
 have hml:r.es.length+1<=maxLen:=by simp only [maxLen];omega
 have hbt:(r.es.length+1)*16<=140737488355328:=by omega
 have hbz:base<=(w6.alloc (.cells #[.int .i64 a,.int .i64 c] 51)).heap.size:=by rw [World.size_alloc];omega
 go_region_law (refine step_append_lies _ rfl _ _ 22 rfl base 51 i0 (.agg #[.int .i64 0,.int .i64 0]) 2 16 Tryz.underlying22 hi hz0 hz1 hz2 rfl (by decide) v r.es.length (bR r.es) rfl (by first | exact hrow6.alloc _ | exact World.ownsRow.alloc (w:=w6.drew) hrow6 _) ⟨_,0,none⟩ 1 _ [.int .i64 a,.int .i64 c] rfl rfl (World.news_of_block (cs:= #[.int .i64 a,.int .i64 c]) (t:=51) (fr:=(0,0)) (heap_alloc_new w6 _)) (by intro u hu;simp at hu;rcases hu with rfl | rfl<;>rfl) (by decide) hml hbt hbz _ rfl ?_;intro g cap w7 hown7 hgrow7 hat7 hlt7;have hb7:=aQQ hgrow7 z2 f2' hneb;have hc7:=hb7.1;have hf7:=hb7.2)
 all_goals (try go_wp2)
 all_goals go_ret
 all_goals (rw [hs])
 all_goals (obtain ⟨g1,v',g2,g3⟩:=aPa R hcb3 hrow3 hD3 hA' ht3 hb5 hown7 hgrow7 (by simpa using hat7))
 all_goals (exact ⟨rfl,by simp [bM,hent],g1,v',by simpa [bM,hent] using g2,g3⟩)
end Go.Proofs.YtfcbohachbeamaaGreatDoor.E
end
