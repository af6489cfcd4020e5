/- What the laws' code answers: part 15 of what the rows of this seat lean on. -/
import Derived.Test.YtfcbohachbeamaaGreatDoorM14
import Derived.Test.YtfcbohachbeamaaGreatDoorM13
set_option linter.unusedVariables false
set_option linter.unusedSimpArgs false
set_option maxHeartbeats 8000000
set_option maxRecDepth 100000
section
namespace Go.Proofs.YtfcbohachbeamaaGreatDoor.E
open Go.VC Go.RowKit
def iJ (l:Int×Int×Int):Prop:=(0<=l.2.1/\l.2.1<=86400)/\0<=l.2.2/\l.2.2<0xde0b6b3a7640000
instance (l:Int×Int×Int):Decidable (iJ l):=inferInstanceAs (Decidable (_/\_))
abbrev Vf:=s1 dV dX fun l=> .o (bv (decide (iJ l)))
theorem aJM:Ok Tryz.prog 236 Vf:=cA (aG Tryz.func236 Eh.ent Eh.aA aH) (by simp [Eh.c]) fun l hl _=>by
 obtain ⟨d,s,a⟩:=l
 refine ⟨0,?_⟩
 simp [Eh.c,iJ]
 grind
theorem n5:Ok Tryz.prog 232 X6:=cA (aG Tryz.func232 Fq.ent Fq.aA aH) (by simp [Fq.c]) fun n hn _=>by
 refine ⟨0,?_⟩
 simp [Fq.c,bS]
 grind
abbrev aLi:=s2 bF bF eO fun s a=> .o (wd (s*0xde0b6b3a7640000+a))
theorem aQU:Ok Tryz.prog 190 aLi:=eT (aG Tryz.func190 Fk.ent Fk.aA eQ) (by simp [Fk.c]) fun s a hs ha _=>by
 simp at hs ha
 refine ⟨0,?_⟩
 have f1 : -0x80000000000000000000000000000000<=s/\s<0x80000000000000000000000000000000:=by omega
 have f2 : -0x80000000000000000000000000000000<=a/\a<0x80000000000000000000000000000000:=by omega
 have f3 : -0x80000000000000000000000000000000<=s*0xde0b6b3a7640000/\s*0xde0b6b3a7640000<0x80000000000000000000000000000000:=by omega
 have f4 : -0x80000000000000000000000000000000<=s*0xde0b6b3a7640000+a/\s*0xde0b6b3a7640000+a<0x80000000000000000000000000000000:=by omega
 simp [Fk.c,hs,ha,f1,f2,f3,f4]
abbrev aJu:=s2 bF bF (fun a b=>b=86400 /\ -0xde0b6b3a7640000<=a) fun a b=> .o (iv .i64 (a/86400))
theorem aKp:Ok Tryz.prog 231 aJu:=eT (aG Tryz.func231 zP.ent zP.aA aH) (by simp [zP.c]) fun a b ha hb hg=>by
 obtain ⟨rfl,hg⟩:=hg
 simp at ha
 refine ⟨0,?_⟩
 have h1:a.tdiv 86400=a/86400+if 0<=a∨86400∣a then 0 else 1:=Int.tdiv_eq_ediv
 have h2:a.tmod 86400=a-86400*a.tdiv 86400:=by have:=Int.mul_tdiv_add_tmod a 86400;omega
 by_cases h:a.tmod 86400<0
 ·have h3:a.tdiv 86400=a/86400+1:=by
   rw [h1];split
   ·rename_i h0
    rw [h1,if_pos h0] at h2;omega
   ·rfl
  have w1:IntKind.i64.wrap (a/86400+1)=a/86400+1:=aD (by omega) (by omega)
  have w2:IntKind.i64.wrap (a.tmod 86400)=a.tmod 86400:=aD (by omega) (by omega)
  have w3:IntKind.i64.wrap (a/86400+1-1)=a/86400:=(aD (by omega) (by omega)).trans (by omega)
  have w4:IntKind.i64.wrap (a/86400)=a/86400:=(aD (by omega) (by omega)).trans (by omega)
  simp [zP.c,h3,w1,w2,w3,w4,h]
 ·have h3:a.tdiv 86400=a/86400:=by
   rw [h1];split
   ·omega
   ·rename_i h0
    rw [h1,if_neg h0] at h2;omega
  have w1:IntKind.i64.wrap (a/86400)=a/86400:=aD (by omega) (by omega)
  have w2:IntKind.i64.wrap (a.tmod 86400)=a.tmod 86400:=aD (by omega) (by omega)
  have h':=Int.not_lt.1 h
  simp [zP.c,h3,w1,w2,h,h']
def uE (es:List En) (l:Int×Int×Int):Int:=if iJ l then (if bS l.1 then (if l.1<Tb.D es 0 then 8 else if l.2.1<86400+Tb.pB es l.1 then 0 else 6) else 2) else 1
noncomputable abbrev aPR:=s3 (cV 1000) dV dF lB fun _ l t=> .io [1000] [.g (aW t)] [iv .i64 (uE t.es l)]
theorem aI1:Ok Tryz.prog 189 aPR:=nK (aG Tryz.func189 sC.ent sC.aA (aB aJM (aB n5 (aB aB2 aH)))) [1000] [(1000,1000)] 2 rfl rfl rfl rfl rfl (by simp [sC.c]) fun _ l t _ hl ht _=>by
 obtain ⟨d,s,a⟩:=l
 replace ht:cC t:=ht
 simp at hl
 refine ⟨⟨_,_,rfl⟩,0,?_⟩
 by_cases h1:iJ (d,s,a)
 ·by_cases h2:bS d
  ·by_cases h3:d<Tb.D t.es 0
   ·simp [sC.c,uE,lV,lE,aN,ht,hl,h1,h2,h3]
   ·have h3':=Int.not_lt.1 h3
    by_cases h4:s<86400+Tb.pB t.es d
    ·have h4':=Int.not_le.2 h4
     simp [sC.c,uE,lV,lE,aN,ht,hl,h1,h2,h3,h3',h4,h4']
    ·have h4':=Int.not_lt.1 h4
     simp [sC.c,uE,lV,lE,aN,ht,hl,h1,h2,h3,h3',h4,h4']
  ·simp [sC.c,uE,aN,ht,hl,h1,h2]
 ·simp [sC.c,uE,aN,ht,hl,h1]
theorem Lg {es:List En} (hk:Tb.Tk es) (d:Int):0<=oV es d/\oV es d<=1000:=by
 unfold oV Tb.sR
 split
 ·decide
 ·rename_i h
  have hle:Tb.Fp es d<=es.length:=Tb.Au _ _
  exact hk.o _ (by omega)
def uN (es:List En) (l:Int×Int×Int):Int:=(l.1*86400+l.2.1+oV es l.1)*0xde0b6b3a7640000+l.2.2
def uT (es:List En) (l:Int×Int×Int):Int:=if uE es l=0 then uN es l else 0
theorem S5 {es:List En} {l:Int×Int×Int} (h:uE es l=0):iJ l/\bS l.1:=by
 unfold uE at h
 by_cases h1:iJ l
 ·by_cases h2:bS l.1
  ·exact ⟨h1,h2⟩
  ·simp [h1,h2] at h
 ·simp [h1] at h
noncomputable abbrev aBF:=s3 (cV 1000) dV dF lB fun _ l t=> .io [1000] [.g (aW t)] [wd (uT t.es l),iv .i64 (uE t.es l)]
theorem aOR:Ok Tryz.prog 140 aBF:=nK (aG Tryz.func140 yX.ent yX.aA (aB aI1 (aB Qm (aB aQU aH)))) [1000] [(1000,1000)] 2 rfl rfl rfl rfl rfl (by simp [yX.c]) fun _ l t _ hl ht _=>by
 obtain ⟨d,s,a⟩:=l
 replace ht:cC t:=ht
 simp at hl
 refine ⟨⟨_,_,rfl⟩,0,?_⟩
 by_cases h:uE t.es (d,s,a)=0
 ·obtain ⟨h1,h2⟩:=S5 h
  have ho:=Lg (iE ht) d
  simp only [iJ,bS] at h1 h2
  have w1:IntKind.i64.wrap (d*86400)=d*86400:=aD (by omega) (by omega)
  have w2:IntKind.i64.wrap (d*86400+s)=d*86400+s:=aD (by omega) (by omega)
  have w3:IntKind.i64.wrap (d*86400+s+oV t.es d)=d*86400+s+oV t.es d:=aD (by omega) (by omega)
  have f1 : -0x8000000000000000<=d*86400+s+oV t.es d/\d*86400+s+oV t.es d<0x8000000000000000:=by omega
  simp [yX.c,uT,uN,aN,ht,hl,h,w1,w2,w3,f1]
 ·simp [yX.c,uT,uN,aN,ht,hl,h]
def Fu (es:List En) (s:Int):Int:=if (s-aO es s)/86400≥aU es s then aU es s-1 else (s-aO es s)/86400
def Hl (es:List En) (s:Int):Int:=if (s-aO es s)/86400≥aU es s then (s-aO es s)%86400+86400 else (s-aO es s)%86400
def uL (es:List En) (t:Int):(Int×Int×Int)×Int:=
 if -0x8000000000000000<=t/0xde0b6b3a7640000/\t/0xde0b6b3a7640000<0x8000000000000000 then
  if aE es (t/0xde0b6b3a7640000)=0 then (if bS (Fu es (t/0xde0b6b3a7640000)) then ((Fu es (t/0xde0b6b3a7640000),Hl es (t/0xde0b6b3a7640000),t%0xde0b6b3a7640000),0) else ((0,0,0),2)) else ((0,0,0),8)
 else ((0,0,0),if t<0 then 8 else 2)
theorem Sn {es:List En} (hk:Tb.Tk es) (s:Int):aE es s=8∨aE es s=0/\Tb.S es 0<=s/\(0<=aO es s/\aO es s<=1000)/\15020<=aU es s/\aU es s<=0x4000000000000000:=by
 rcases Int.lt_or_le s (Tb.S es 0) with h | h
 ·left
  unfold aE
  rw [Tb.aKZ hk h]
 ·right
  obtain ⟨k,hi⟩:=Tb.Md hk h
  unfold aE aO aU
  rw [Tb.Qa hk hi]
  refine ⟨rfl,h,hk.o _ hi.1,?_⟩
  dsimp only
  split
  ·rename_i h2
   have:=hk.d _ h2
   omega
  ·unfold Tb.never;omega
noncomputable abbrev aIA:=s3 (cV 1000) bN dF lB fun _ x t=> .io [1000] [.g (aW t)] [rH (uL t.es x).1,iv .i64 (uL t.es x).2]
theorem aBK:Ok Tryz.prog 181 aIA:=nK (aG Tryz.func181 nS.ent nS.aA (aB aBm (aB aKp (aB n5 eQ)))) [1000] [(1000,1000)] 2 rfl rfl rfl rfl rfl (by simp [nS.c]) fun _ x t _ hx ht _=>by
 replace ht:cC t:=ht
 simp at hx
 have hk:=iE ht
 have q1:=Jv hx.1 hx.2 (show (0:Int)<0xde0b6b3a7640000 by decide)
 have r1:0<=x%0xde0b6b3a7640000/\x%0xde0b6b3a7640000<0xde0b6b3a7640000:=by omega
 have f5 : -0x80000000000000000000000000000000<=x%0xde0b6b3a7640000/\x%0xde0b6b3a7640000<0x80000000000000000000000000000000:=by omega
 have f3 : -0x8000000000000000<=x%0xde0b6b3a7640000/\x%0xde0b6b3a7640000<0x8000000000000000:=by omega
 refine ⟨⟨_,_,rfl⟩,0,?_⟩
 by_cases h1 : -0x8000000000000000<=x/0xde0b6b3a7640000/\x/0xde0b6b3a7640000<0x8000000000000000
 ·have e0:=Sn hk (x/0xde0b6b3a7640000)
  have hS:=Tb.Ks t.es 0
  have hd0:=hk.d 0 hk.n0
  have ho0:=hk.o 0 hk.n0
  generalize hs:x/0xde0b6b3a7640000=s at *
  rcases e0 with e0 | ⟨e0,e1,⟨e2,e3⟩,e4,e5⟩
  ·simp [nS.c,uL,aN,ht,hx,q1,f5,f3,h1,hs,e0]
  ·have w1:IntKind.i64.wrap (s-aO t.es s)=s-aO t.es s:=aD (by omega) (by omega)
   have g1 : -0xde0b6b3a7640000<=s-aO t.es s:=by omega
   have g2 : -0x8000000000000000<=s-aO t.es s/\s-aO t.es s<0x8000000000000000:=by omega
   have w2:IntKind.i64.wrap ((s-aO t.es s)/86400*86400)=(s-aO t.es s)/86400*86400:=aD (by omega) (by omega)
   have w3:IntKind.i64.wrap (s-aO t.es s-(s-aO t.es s)/86400*86400)=(s-aO t.es s)%86400:=(aD (by omega) (by omega)).trans (by omega)
   have w4:IntKind.i64.wrap (aU t.es s-1)=aU t.es s-1:=aD (by omega) (by omega)
   have w5:IntKind.i64.wrap ((s-aO t.es s)%86400+86400)=(s-aO t.es s)%86400+86400:=aD (by omega) (by omega)
   have g3 : -0x8000000000000000<=(s-aO t.es s)/86400/\(s-aO t.es s)/86400<0x8000000000000000:=by omega
   have g4 : -0x8000000000000000<=aU t.es s-1/\aU t.es s-1<0x8000000000000000:=by omega
   have g5 : -0x8000000000000000<=aU t.es s/\aU t.es s<0x8000000000000000:=by omega
   generalize hrr:(s-aO t.es s)%86400=rr at *
   generalize hdd:(s-aO t.es s)/86400=dd at *
   by_cases h3:dd≥aU t.es s
   ·by_cases h4:bS (aU t.es s-1)<;>simp [nS.c,uL,Fu,Hl,aN,ht,hx,q1,f5,f3,h1,hs,e0,g1,g2,hdd,hrr,w1,w2,w3,w4,w5,h3,h4,g3,g4,g5]
   ·have h3':=Int.not_le.1 h3
    by_cases h4:bS dd<;>simp [nS.c,uL,Fu,Hl,aN,ht,hx,q1,f5,f3,h1,hs,e0,g1,g2,hdd,hrr,w1,w2,w3,w4,w5,h3,h3',h4,g3,g4,g5]
 ·by_cases h2:x<0<;>simp [nS.c,uL,aN,ht,hx,q1,f5,f3,h1,h2]
end Go.Proofs.YtfcbohachbeamaaGreatDoor.E
end
section
namespace Go.VC.Tb
abbrev A:Int:=0xde0b6b3a7640000
def wS (es:List (Int×Int)) (i:Nat):Int:=(D es i*86400-43200+O es (i-1))*A
def wE (es:List (Int×Int)) (i:Nat):Int:=(D es i*86400+43200+O es i)*A
def wF (es:List (Int×Int)) (i:Nat):Int:=(D es i*86400-43200-40587*86400)*A
def wL (es:List (Int×Int)) (i:Nat):Int:=86400+(O es i-O es (i-1))
def lN (es:List (Int×Int)) (t:Int) (i:Nat):Prop:=1<=i/\i<es.length/\wS es i<=t/\t<wE es i
def uG (es:List (Int×Int)) (n:Int) (i:Nat):Prop:=1<=i/\i<es.length/\wF es i<=n/\n<wF es i+86400*A
instance (es:List (Int×Int)) (t:Int) (i:Nat):Decidable (lN es t i):=inferInstanceAs (Decidable (_/\_/\_/\_))
instance (es:List (Int×Int)) (t:Int) (i:Nat):Decidable (uG es t i):=inferInstanceAs (Decidable (_/\_/\_/\_))
theorem Lz {p:Nat->Prop} [DecidablePred p] : ∀ {n:Nat},(∀ i,i<n -> ¬ p i)->fst p n=n
 | 0,_=>rfl
 | n+1,h=>by
  have h0:=Au p n
  have g1 : ¬ (p (fst p n)/\fst p n<n):=fun g=>h _ (by omega) g.1
  have g2 : ¬ p n:=h n (by omega)
  unfold fst
  simp [g1,g2]
theorem Im {p:Nat->Prop} [DecidablePred p] {k:Nat} : ∀ {n:Nat},k<n->(∀ i,i<k -> ¬ p i)->p k->fst p n=k
 | 0,hk,_,_=>by omega
 | n+1,hk,h1,h2=>by
  rcases Nat.lt_or_ge k n with h | h
  ·have ih:=Im h h1 h2
   unfold fst
   rw [ih]
   simp [h2,h]
  ·have e:k=n:=by omega
   subst e
   have ih:fst p k=k:=Lz h1
   unfold fst
   rw [ih]
   simp [h2]
def Pv (es:List (Int×Int)) (t:Int):Int:=
 let i:=fst (lN es t) es.length
 if i<es.length then wF es i+(t-wS es i)*86400/wL es i
 else match pV es (t/A) with
  | some (o,_)=>t-(40587*86400+o)*A
  | none=>t-40587*86400*A
def Nn (es:List (Int×Int)) (n:Int):Int:=
 let i:=fst (uG es n) es.length
 if i<es.length then wS es i+(if (n-wF es i)*wL es i%86400=0 then (n-wF es i)*wL es i/86400 else (n-wF es i)*wL es i/86400+1)
 else match sR es (n/A/86400+40587) with
  | some o=>n+(40587*86400+o)*A
  | none=>n+40587*86400*A
end Go.VC.Tb
end
section
namespace Go.Proofs.YtfcbohachbeamaaGreatDoor.E
open Go.VC Go.RowKit
theorem cE:aQ 0=0:=rfl
theorem cD:aT 0=0:=rfl
def fz (z:Int):Int:=if -0x80000000000000000000000000000000<=z/\z<0x80000000000000000000000000000000 then z else 0
theorem qZ {z:Int} (h : -0x80000000000000000000000000000000<=z/\z<0x80000000000000000000000000000000):fz z=z:=if_pos h
theorem sP (z:Int) : -0x80000000000000000000000000000000<=fz z/\fz z<0x80000000000000000000000000000000:=by
 unfold fz
 split
 ·assumption
 ·decide
abbrev Q1:=s1 bF dX fun n=> .o (wd (n*0xde0b6b3a7640000))
theorem Wa {n:Int} (h : -0x8000000000000000<=n/\n<0x8000000000000000):(-0x80000000000000000000000000000000<=n/\n<0x80000000000000000000000000000000) /\ -0x80000000000000000000000000000000<=n*0xde0b6b3a7640000/\n*0xde0b6b3a7640000<0x80000000000000000000000000000000:=by omega
theorem Pu:Ok Tryz.prog 176 Q1:=cA (aG Tryz.func176 Cg.ent Cg.aA eQ) (by simp [Cg.c]) fun n hn _=>by
 simp at hn
 obtain ⟨f1,f2⟩:=Wa hn
 exact ⟨0,by simp [Cg.c,hn,f1,f2]⟩
abbrev S2:=s2 bN bN eO fun x y=> .o (wd (fz (x+y)))
theorem aAw:Ok Tryz.prog 180 S2:=eT (aG Tryz.func180 Bd.ent Bd.aA eQ) (by simp [Bd.c]) fun x y hx hy _=>by
 simp at hx hy
 refine ⟨0,?_⟩
 by_cases f1 : -0x80000000000000000000000000000000<=x+y/\x+y<0x80000000000000000000000000000000<;>simp [Bd.c,hx,hy,f1,fz]
abbrev aAg:=s2 bN bN eO fun x y=> .o (wd (fz (x-y)))
theorem X1:Ok Tryz.prog 174 aAg:=eT (aG Tryz.func174 zX.ent zX.aA eQ) (by simp [zX.c]) fun x y hx hy _=>by
 simp at hx hy
 refine ⟨0,?_⟩
 by_cases f1 : -0x80000000000000000000000000000000<=x-y/\x-y<0x80000000000000000000000000000000<;>simp [zX.c,hx,hy,f1,fz]
structure Wn where
 a:Int
 b:Int
 c:Int
 s:Int
def iR (x:Wn):List AC:= [.v (.int .i64 (aQ x.a)),.v (.int .u64 (aT x.a)),.v (.int .i64 (aQ x.b)),.v (.int .u64 (aT x.b)),.v (.int .i64 (aQ x.c)),.v (.int .u64 (aT x.c)),.v (.int .i64 x.s)]
def tM (x:Wn):List QC:= [.v (.int .i64 (aQ x.a)),.v (.int .u64 (aT x.a)),.v (.int .i64 (aQ x.b)),.v (.int .u64 (aT x.b)),.v (.int .i64 (aQ x.c)),.v (.int .u64 (aT x.c)),.v (.int .i64 x.s)]
def Ba (x:Wn):Prop:=(-0x80000000000000000000000000000000<=x.a/\x.a<0x80000000000000000000000000000000)/\(-0x80000000000000000000000000000000<=x.b/\x.b<0x80000000000000000000000000000000)/\(-0x80000000000000000000000000000000<=x.c/\x.c<0x80000000000000000000000000000000) /\ -1<=x.s/\x.s<=1
theorem aJQ {x y:Wn} (h:iR x=iR y):x=y:=by
 obtain ⟨a,b,c,s⟩:=x
 obtain ⟨a',b',c',s'⟩:=y
 simp only [iR,List.cons.injEq,AC.v.injEq,Value.int.injEq,true_and,and_true] at h
 obtain ⟨h1,h2,h3,h4,h5,h6,h7⟩:=h
 have e1:=pU.1 ⟨h1,h2⟩
 have e2:=pU.1 ⟨h3,h4⟩
 have e3:=pU.1 ⟨h5,h6⟩
 rw [e1,e2,e3,h7]
noncomputable def Hh:Co Wn:=nA ⟨0,0,0,0⟩ (fun x=> .g (iR x)) Ba (fun x y _ _ h=>aJQ (by simpa using h))
theorem aFI {x:Wn} : Hh.e x = .g (iR x):=_root_.id rfl
theorem aFD {x:Wn} (h:Ba x):Hh.v (.g (iR x))=True:=pR (e:=fun x=> .g (iR x)) h
theorem aLw {x:Wn} (h:Ba x):Hh.t (.g (iR x))=x:=pY (e:=fun x=> .g (iR x)) h
noncomputable abbrev aOy:=s1 Hh dX fun x=> .o (wd (86400+x.s))
theorem aBe:Ok Tryz.prog 179 aOy:=cA (aG Tryz.func179 Du.ent Du.aA eQ) (by simp [Du.c]) fun x hx _=>by
 obtain ⟨a,b,c,s⟩:=x
 obtain ⟨h1,h2,h3,h4,h5⟩:=hx
 simp only at h4 h5
 have w1:IntKind.i64.wrap (86400+s)=86400+s:=aD (by omega) (by omega)
 have f1 : -0x8000000000000000<=86400+s/\86400+s<0x8000000000000000:=by omega
 exact ⟨0,by simp [Du.c,aFI,iR,w1,f1]⟩
def iB:List Wn->List AC
 | []=> []
 | x::r=>iR x++iB r
def B4:List Wn->List QC
 | []=> []
 | x::r=>tM x++B4 r
theorem Kz : ∀ l,(iB l).length=l.length*7
 | []=>rfl
 | x::r=>by simp [iB,iR,Kz r];omega
theorem Nu : ∀ l,(B4 l).length=l.length*7
 | []=>rfl
 | x::r=>by simp [B4,tM,Nu r];omega
theorem aFZ (l:List Wn):(B4 l).length/7=l.length:=by rw [Nu];omega
theorem J3 : ∀ (l:List Wn) (x:Wn),iB l++iR x=iB (l ++ [x])
 | [],x=>by simp [iB]
 | y::r,x=>by rw [iB,List.append_assoc,J3 r x];rfl
theorem F6 : ∀ l:List Wn,pL (iB l)=some (B4 l)
 | []=>rfl
 | x::l=>by simp only [iB,iR,List.cons_append,List.nil_append,pL,F6 l];rfl
theorem aKc (l:List Wn):fS ⟨271,7,none⟩ l.length (iB l) = .q 7 (B4 l):=by
 have h:(iB l).take (l.length*7)=iB l:=List.take_of_length_le (by rw [Kz];omega)
 unfold fS
 simp only
 rw [h,F6,Kz,if_pos (Nat.le_refl _)]
theorem aAJ (ns:List Nat) : ∀ l:List Wn,(iB l).map (fun x=>AC.kill ns x)=iB l
 | []=>rfl
 | x::l=>by simp only [iB,List.map_append,aAJ ns l];rfl
theorem rJ {ns:List Nat} {t:bC} : (aW t).map (fun x=>AC.kill ns x)=aW t:=_root_.id rfl
theorem aCo (l:List Wn):(iB l).take (l.length*7)=iB l:=List.take_of_length_le (by rw [Kz];omega)
theorem Sq : ∀ {l:List Wn} {i:Nat} {x:Wn},l[i]? = some x->(B4 l).drop (i*7)=tM x++B4 (l.drop (i+1))
 | [],i,x,h=>by cases h
 | y::r,0,x,h=>by cases h;rfl
 | y::r,i+1,x,h=>by
  have h2:(i+1)*7=i*7+1+1+1+1+1+1+1:=by omega
  rw [h2]
  exact Sq (l:=r) (by simpa using h)
def mS (l:List Wn):AC:=if l = [] then .r .u8 [] else .q 7 (B4 l)
def win (es:List En) (i:Nat):Wn:=⟨Tb.wS es i,Tb.wE es i,Tb.wF es i,Tb.O es i-Tb.O es (i-1)⟩
def gJ (es:List En) (k:Nat):List Wn:=(List.range k).map fun j=>win es (j+1)
theorem xO (es:List En) (k:Nat):(gJ es k).length=k:=by simp [gJ]
theorem aOx (es:List En) (k:Nat):gJ es (k+1)=gJ es k ++ [win es (k+1)]:=by simp [gJ,List.range_succ]
theorem D3 (es:List En) {k j:Nat} (h:j<k):(gJ es k)[j]? = some (win es (j+1)):=by simp [gJ,h]
theorem Mf {es:List En} (hk:Tb.Tk es) {i:Nat} (h1:1<=i) (h2:i<es.length):Ba (win es i) /\
 -0x1ed09bead87c0378d8e6400000000<=(win es i).a/\(win es i).a<=0x1ed09bead87c0378d8e6400000000 /\ -0x1ed09bead87c0378d8e6400000000<=(win es i).b/\(win es i).b<=0x1ed09bead87c0378d8e6400000000 /\ -0x1ed09bead87c0378d8e6400000000<=(win es i).c/\(win es i).c<=0x1ed09bead87c0378d8e6400000000:=by
 obtain ⟨j,rfl⟩ : ∃ j,i=j+1:=⟨i-1,by omega⟩
 have a1:=hk.d _ h2
 have a2:=hk.o _ h2
 have a3:=hk.o j (by omega)
 have a4:=(hk.up j h2).2
 simp only [win,Ba,Tb.wS,Tb.wE,Tb.wF,Tb.A,Nat.add_sub_cancel]
 omega
theorem Om : ∀ {l:List En} {i:Nat},i<l.length->(qE l).drop (i*2) = .v (.int .i64 (l.getD i (0,0)).1) :: .v (.int .i64 (Tb.O l i))::qE (l.drop (i+1))
 | [],i,h=>by cases h
 | e::r,0,h=>rfl
 | e::r,i+1,h=>by
  have h2:(i+1)*2=i*2+1+1:=by omega
  rw [h2]
  exact Om (l:=r) (by simpa using h)
noncomputable abbrev aDA:=s2 (cV 1000) dF eO fun _ t=> .io [1000] [.g (aW t)] [.c (mS (gJ t.es (t.es.length-1)))]
theorem n9:Ok Tryz.prog 178 aDA:=Hy (aG Tryz.func178 nD.ent nD.aA (aB aHZ (aB Pu aH))) [1000] [(1000,1000)] 1 rfl rfl rfl rfl rfl (by simp [nD.c]) fun _ t _ ht _=>by
 replace ht:cC t:=ht
 have hk:=iE ht
 have n1:=hk.n1
 have n0:=hk.n0
 refine ⟨⟨_,_,rfl⟩,t.es.length+1,?_⟩
 simp only [nD.c,fL,fC,fJ,fG]
 simp [aN,ht,Ae]
 refine iO (fun i s=>s.tm 4 = .o (.c (.q 2 (qE t.es)))/\s.tm 13 = .o (iv .i64 (t.es.length:Int))/\s.tm 14 = .o (iv .i64 (i:Int))/\s.mem 1000=some (aW t)/\s.mem 54=none /\
  ((i<=1/\s.tm 3 = .o (.c (.nil .u8))/\s.mem 55=none)∨(1<i/\s.tm 3 = .o (.c (.s ⟨271,7,none⟩ 55 (i-1)))/\s.mem 55=some (iB (gJ t.es (i-1)))))) t.es.length ?_ ?_ (t.es.length+1) _ (by omega) ?_
 ·rintro i s hi ⟨t4,t13,t14,m1000,m54,hrow⟩
  have c1:(i:Int)<(t.es.length:Int):=by omega
  have w0:IntKind.i64.wrap ((i:Int)+1)=(i:Int)+1:=aD (by omega) (by omega)
  cases i with
  | zero=>
   rcases hrow with ⟨-,t3,m55⟩ | ⟨h1,-⟩
   ·have w1:IntKind.i64.wrap 1=1:=rfl
    simp [nD.l1,t3,t4,t13,t14,m1000,m54,m55,c1,n0,w1]
   ·omega
  | succ j=>
   have p1:=Om hi
   have p2:=Om (show j<t.es.length by omega)
   have l1:(j+1)*2+2<=t.es.length*2:=by omega
   have l2:j*2+2<=t.es.length*2:=by omega
   have a1:=hk.d _ hi
   have a2:=hk.o _ hi
   have a3:=hk.o j (by omega)
   have a4:=(hk.up j hi).2
   rw [a1.2.2] at p1
   have w1:IntKind.i64.wrap (1297728000+(Tb.D t.es (j+1)-15020)*86400)=Tb.D t.es (j+1)*86400:=(aD (by omega) (by omega)).trans (by omega)
   have w2:IntKind.i64.wrap (Tb.D t.es (j+1)*86400-43200)=Tb.D t.es (j+1)*86400-43200:=aD (by omega) (by omega)
   have w3:IntKind.i64.wrap ((j:Int)+1-1)=j:=(aD (by omega) (by omega)).trans (by omega)
   have w4:IntKind.i64.wrap (Tb.D t.es (j+1)*86400-43200+Tb.O t.es j)=Tb.D t.es (j+1)*86400-43200+Tb.O t.es j:=aD (by omega) (by omega)
   have w5:IntKind.i64.wrap (Tb.D t.es (j+1)*86400-43200+86400)=Tb.D t.es (j+1)*86400+43200:=(aD (by omega) (by omega)).trans (by omega)
   have w6:IntKind.i64.wrap (Tb.D t.es (j+1)*86400+43200+Tb.O t.es (j+1))=Tb.D t.es (j+1)*86400+43200+Tb.O t.es (j+1):=aD (by omega) (by omega)
   have w7:IntKind.i64.wrap (Tb.D t.es (j+1)*86400-43200-3506716800)=Tb.D t.es (j+1)*86400-43200-3506716800:=(aD (by omega) (by omega)).trans (by omega)
   have w8:IntKind.i64.wrap (Tb.O t.es (j+1)-Tb.O t.es j)=Tb.O t.es (j+1)-Tb.O t.es j:=aD (by omega) (by omega)
   have f4 : -0x8000000000000000<=Tb.D t.es (j+1)*86400-43200+Tb.O t.es j/\Tb.D t.es (j+1)*86400-43200+Tb.O t.es j<0x8000000000000000:=by omega
   have f6 : -0x8000000000000000<=Tb.D t.es (j+1)*86400+43200+Tb.O t.es (j+1)/\Tb.D t.es (j+1)*86400+43200+Tb.O t.es (j+1)<0x8000000000000000:=by omega
   have f7 : -0x8000000000000000<=Tb.D t.es (j+1)*86400-43200-3506716800/\Tb.D t.es (j+1)*86400-43200-3506716800<0x8000000000000000:=by omega
   have b1 : ¬ (j:Int)+1=0:=by omega
   have b2:0<=(j:Int)+1:=by omega
   have hw:iR (win t.es (j+1)) = [.v (.int .i64 (aQ ((Tb.D t.es (j+1)*86400-43200+Tb.O t.es j)*0xde0b6b3a7640000))),.v (.int .u64 (aT ((Tb.D t.es (j+1)*86400-43200+Tb.O t.es j)*0xde0b6b3a7640000))),.v (.int .i64 (aQ ((Tb.D t.es (j+1)*86400+43200+Tb.O t.es (j+1))*0xde0b6b3a7640000))),.v (.int .u64 (aT ((Tb.D t.es (j+1)*86400+43200+Tb.O t.es (j+1))*0xde0b6b3a7640000))),.v (.int .i64 (aQ ((Tb.D t.es (j+1)*86400-43200-3506716800)*0xde0b6b3a7640000))),.v (.int .u64 (aT ((Tb.D t.es (j+1)*86400-43200-3506716800)*0xde0b6b3a7640000))),.v (.int .i64 (Tb.O t.es (j+1)-Tb.O t.es j))]:=_root_.id rfl
   generalize Tb.D t.es (j+1)=D at *
   generalize Tb.O t.es (j+1)=O at *
   generalize Tb.O t.es j=P at *
   rcases hrow with ⟨h1,t3,m55⟩ | ⟨h1,t3,m55⟩
   ·obtain rfl:j=0:=by omega
    have hr1:(qE t.es).drop 1 = .v (.int .i64 P)::qE (t.es.drop 1):=by
     have:=congrArg (List.drop 1) p2
     simpa using this
    have hr2:(qE t.es).drop 2 = .v (.int .i64 ((D-15020)*86400)) :: .v (.int .i64 O)::qE (t.es.drop 2):=p1
    have hR:=iC t.es
    have hn2:4<=t.es.length*2:=by omega
    have hn3:2<=t.es.length*2:=by omega
    have c2:(1:Int)<(t.es.length:Int):=by omega
    have z0:IntKind.i64.wrap 0=0:=rfl
    have z2:IntKind.i64.wrap 2=2:=rfl
    have t14':s.tm 14 = .o (iv .i64 1):=t14
    clear p1 p2 l1 l2
    generalize qE t.es=R at *
    have hr0:R[1]? = some (.v (.int .i64 P)):=by
     have:=congrArg (fun l:List QC=>l[0]?) hr1
     simpa using this
    have hl1:1<=t.es.length*2-1:=by omega
    simp [nD.l1,t3,t4,t13,t14',m1000,m54,m55,c2,hr0,hr2,hR,hn2,hn3,hl1,z0,z2,w1,w2,w4,w5,w6,w7,w8,f4,f6,f7]
    exact ⟨rJ,hw.symm.trans (by simp [gJ,iB])⟩
   ·simp at w3 c1 t14
    simp [nD.l1,t3,t4,t13,t14,m1000,m54,m55,c1,w0,p1,p2,l1,l2,iC,w1,w2,w3,w4,w5,w6,w7,w8,f4,f6,f7,b1,b2,Kz,xO,rJ,aAJ]
    refine ⟨by omega,aD (by omega) (by omega),?_⟩
    have hj:(iB (gJ t.es j)).take (j*7)=iB (gJ t.es j):=by
     have:=aCo (gJ t.es j)
     rwa [xO] at this
    rw [hj,aOx,← J3,hw]
 ·rintro s ⟨t4,t13,t14,m1000,m54,hrow⟩
  rcases hrow with ⟨h1,t3,m55⟩ | ⟨h1,t3,m55⟩
  ·have h2:t.es.length-1=0:=by omega
   simp [nD.l1,t3,t4,t13,t14,m1000,m54,m55,h2,gJ,mS]
  ·have hr:=aKc (gJ t.es (t.es.length-1))
   rw [xO] at hr
   have h2 : ¬ gJ t.es (t.es.length-1) = []:=by
    intro h
    have:=congrArg List.length h
    rw [xO] at this
    simp at this;omega
   simp [nD.l1,t3,t4,t13,t14,m1000,m54,m55,mS,hr,h2]
 ·exact ⟨by simp,by simp,by simp,by simp,by simp,.inl ⟨by omega,by simp,by simp⟩⟩
end Go.Proofs.YtfcbohachbeamaaGreatDoor.E
end
section
namespace Go.Proofs.YtfcbohachbeamaaGreatDoor.E
open Go.VC Go.RowKit
def iI (z:Int):Int:=(z+0x8000000000000000)%0x10000000000000000-0x8000000000000000
theorem Bc (z:Int):IntKind.i64.wrap z=iI z:=by rw [IntKind.wrap_i64];unfold iI;omega
theorem Rp (z:Int) : -0x8000000000000000<=iI z/\iI z<0x8000000000000000:=by unfold iI;omega
def mq (P d:Int):Int:=if d<=0 then 0 else if -0x80000000000000000000000000000000<=P/d/\P/d<0x80000000000000000000000000000000 then P/d else 0
def mr (P d:Int):Int:=if d<=0 then 0 else if -0x80000000000000000000000000000000<=P/d/\P/d<0x80000000000000000000000000000000 then P%d else 0
structure Pc where
 d:Int
 base:Int
 eD:Int
 d86:Int
 eH:Int
 fQ:Int
 fin:Int
 eI:Int
 deriving DecidableEq
abbrev pH (z:Int):Prop:= -0x80000000000000000000000000000000<=z/\z<0x80000000000000000000000000000000
def jY (x:Pc):Prop:=(-0x8000000000000000<=x.d/\x.d<0x8000000000000000)/\pH x.base/\pH x.eD/\pH x.d86/\pH x.eH/\pH x.fQ/\pH x.fin/\(-0x8000000000000000<=x.eI/\x.eI<0x8000000000000000)
instance (x:Pc):Decidable (jY x):=inferInstanceAs (Decidable (_/\_/\_/\_/\_/\_/\_/\_))
def yQ (x:Pc):List Value:= [.int .i64 x.d,.int .i64 (aQ x.base),.int .u64 (aT x.base),.int .i64 (aQ x.eD),.int .u64 (aT x.eD),.int .i64 (aQ x.d86),.int .u64 (aT x.d86),.int .i64 (aQ x.eH),.int .u64 (aT x.eH),.int .i64 (aQ x.fQ),.int .u64 (aT x.fQ),.int .i64 (aQ x.fin),.int .u64 (aT x.fin),.int .i64 x.eI]
def dJ (x:Pc):List AC:= [.v (.int .i64 x.d),.v (.int .i64 (aQ x.base)),.v (.int .u64 (aT x.base)),.v (.int .i64 (aQ x.eD)),.v (.int .u64 (aT x.eD)),.v (.int .i64 (aQ x.d86)),.v (.int .u64 (aT x.d86)),.v (.int .i64 (aQ x.eH)),.v (.int .u64 (aT x.eH)),.v (.int .i64 (aQ x.fQ)),.v (.int .u64 (aT x.fQ)),.v (.int .i64 (aQ x.fin)),.v (.int .u64 (aT x.fin)),.v (.int .i64 x.eI)]
def iF (x:Pc):List QC:= [.v (.int .i64 x.d),.v (.int .i64 (aQ x.base)),.v (.int .u64 (aT x.base)),.v (.int .i64 (aQ x.eD)),.v (.int .u64 (aT x.eD)),.v (.int .i64 (aQ x.d86)),.v (.int .u64 (aT x.d86)),.v (.int .i64 (aQ x.eH)),.v (.int .u64 (aT x.eH)),.v (.int .i64 (aQ x.fQ)),.v (.int .u64 (aT x.fQ)),.v (.int .i64 (aQ x.fin)),.v (.int .u64 (aT x.fin)),.v (.int .i64 x.eI)]
theorem Zy {x y:Pc} (h:yQ x=yQ y):x=y:=by
 obtain ⟨d,b,f,e,l,r,z,u⟩:=x
 obtain ⟨d',b',f',e',l',r',z',u'⟩:=y
 simp only [yQ,List.cons.injEq,Value.int.injEq,true_and,and_true] at h
 obtain ⟨h1,h2,h3,h4,h5,h6,h7,h8,h9,h10,h11,h12,h13,h14⟩:=h
 rw [h1,pU.1 ⟨h2,h3⟩,pU.1 ⟨h4,h5⟩,pU.1 ⟨h6,h7⟩,pU.1 ⟨h8,h9⟩,pU.1 ⟨h10,h11⟩,pU.1 ⟨h12,h13⟩,h14]
theorem aMW {x y:Pc} (h:dJ x=dJ y):x=y:=by
 apply Zy
 simpa [dJ,yQ] using h
def jM:List Pc->List Value
 | []=> []
 | x::r=>yQ x++jM r
def dI:List Pc->List QC
 | []=> []
 | x::r=>iF x++dI r
def cM:List Pc->List AC
 | []=> []
 | x::r=>dJ x++cM r
theorem Ri : ∀ l,(jM l).map QC.v=dI l
 | []=>rfl
 | x::r=>by simp only [jM,dI,List.map_append,Ri r];rfl
theorem Bh : ∀ l,(dI l).length=l.length*14
 | []=>rfl
 | x::r=>by simp [dI,iF,Bh r];omega
theorem xS : ∀ l,(cM l).length=l.length*14
 | []=>rfl
 | x::r=>by simp [cM,dJ,xS r];omega
theorem Wu (l:List Pc):(dI l).length/14=l.length:=by rw [Bh];omega
theorem x9 : ∀ a b,dI (a++b)=dI a++dI b
 | [],b=>rfl
 | x::r,b=>by simp [dI,x9 r b]
theorem Nk : ∀ a b,cM (a++b)=cM a++cM b
 | [],b=>rfl
 | x::r,b=>by simp [cM,Nk r b]
theorem Rc {pre:List Pc} {x:Pc} {r:List Pc} : (dI (pre++x::r)).drop (pre.length*14)=iF x++dI r:=by
 rw [x9,← Bh,List.drop_left];rfl
theorem Ni (l:List Pc):mB (dI l)=some (jM l):=by rw [← Ri];exact Sr _
theorem Yn : ∀ l:List Pc,pL (cM l)=some (dI l)
 | []=>rfl
 | x::l=>by simp only [cM,dJ,List.cons_append,List.nil_append,pL,Yn l];rfl
theorem Lv : ∀ {a b:List Pc},jM a=jM b->a=b
 | [],[],_=>rfl
 | [],_::_,h=>by simp [jM,yQ] at h
 | _::_,[],h=>by simp [jM,yQ] at h
 | x::a,y::b,h=>by
  simp only [jM] at h
  obtain ⟨h1,h2⟩:=List.append_inj h (by simp [yQ])
  rw [Zy h1,Lv h2]
def kJ (l:List Pc):Prop:= ∀ x∈l,jY x
noncomputable def wN:Co Pc:=nA ⟨0,0,0,0,0,0,0,0⟩ (fun x=> .g (dJ x)) jY (fun x y _ _ h=>aMW (by simpa using h))
theorem qB {x:Pc} : wN.e x = .g (dJ x):=_root_.id rfl
theorem aIc {x:Pc} (h:jY x):wN.v (.g (dJ x))=True:=pR (e:=fun x=> .g (dJ x)) h
theorem aLp {x:Pc} (h:jY x):wN.t (.g (dJ x))=x:=pY (e:=fun x=> .g (dJ x)) h
theorem Hk {x:Pc} (h:jY x):wN.v (.g [.v (.int .i64 x.d),.v (.int .i64 (aQ x.base)),.v (.int .u64 (aT x.base)),.v (.int .i64 (aQ x.eD)),.v (.int .u64 (aT x.eD)),.v (.int .i64 (aQ x.d86)),.v (.int .u64 (aT x.d86)),.v (.int .i64 (aQ x.eH)),.v (.int .u64 (aT x.eH)),.v (.int .i64 (aQ x.fQ)),.v (.int .u64 (aT x.fQ)),.v (.int .i64 (aQ x.fin)),.v (.int .u64 (aT x.fin)),.v (.int .i64 x.eI)])=True:=aIc h
theorem Gy {x:Pc} (h:jY x):wN.t (.g [.v (.int .i64 x.d),.v (.int .i64 (aQ x.base)),.v (.int .u64 (aT x.base)),.v (.int .i64 (aQ x.eD)),.v (.int .u64 (aT x.eD)),.v (.int .i64 (aQ x.d86)),.v (.int .u64 (aT x.d86)),.v (.int .i64 (aQ x.eH)),.v (.int .u64 (aT x.eH)),.v (.int .i64 (aQ x.fQ)),.v (.int .u64 (aT x.fQ)),.v (.int .i64 (aQ x.fin)),.v (.int .u64 (aT x.fin)),.v (.int .i64 x.eI)])=x:=aLp h
noncomputable def Fm:Co (List Pc):=nA [] (fun l=> .c (.kq [.qv 14 (jM l)])) kJ (fun x y _ _ h=>by
 simp only [AP.c.injEq,AC.kq.injEq,List.cons.injEq,QC.qv.injEq,true_and,and_true] at h
 exact Lv h)
theorem Cy {l:List Pc} : Fm.e l = .c (.kq [.qv 14 (jM l)]):=_root_.id rfl
theorem Kd {l:List Pc} (h:kJ l):Fm.v (.c (.kq [.qv 14 (jM l)]))=True:=pR (e:=fun l=> .c (.kq [.qv 14 (jM l)])) h
theorem Jr {l:List Pc} (h:kJ l):Fm.t (.c (.kq [.qv 14 (jM l)]))=l:=pY (e:=fun l=> .c (.kq [.qv 14 (jM l)])) h
theorem aKq {a b:List Pc} (h:dI a=dI b):a=b:=by
 have h1:=Ni a
 rw [h,Ni b] at h1
 exact (Lv (Option.some.inj h1)).symm
noncomputable def Kj:Co (List Pc):=nA [] (fun l=> .c (.q 14 (dI l))) kJ (fun x y _ _ h=>by
 simp only [AP.c.injEq,AC.q.injEq,true_and] at h
 exact aKq h)
theorem Vk {l:List Pc} : Kj.e l = .c (.q 14 (dI l)):=_root_.id rfl
theorem Qu {l:List Pc} (h:kJ l):Kj.v (.c (.q 14 (dI l)))=True:=pR (e:=fun l=> .c (.q 14 (dI l))) h
theorem Vo {l:List Pc} (h:kJ l):Kj.t (.c (.q 14 (dI l)))=l:=pY (e:=fun l=> .c (.q 14 (dI l))) h
attribute [simp] Ri Ni
abbrev aGd:=s2 bF bF eO fun a b=> .o (wd (a*b))
theorem aJB {a b:Int} (ha : -0x8000000000000000<=a/\a<0x8000000000000000) (hb : -0x8000000000000000<=b/\b<0x8000000000000000) : -0x80000000000000000000000000000000<=a*b/\a*b<0x80000000000000000000000000000000:=by
 have h1:a*b<=0x8000000000000000*0x8000000000000000:=by
  rcases Int.le_total 0 a with h | h<;>rcases Int.le_total 0 b with h' | h'
  ·exact Int.mul_le_mul (by omega) (by omega) h' (by omega)
  ·have:a*b<=0:=Int.mul_nonpos_of_nonneg_of_nonpos h h'
   omega
  ·have:a*b<=0:=Int.mul_nonpos_of_nonpos_of_nonneg h h'
   omega
  ·have:(-a)*(-b)<=0x8000000000000000*0x8000000000000000:=Int.mul_le_mul (by omega) (by omega) (by omega) (by omega)
   rwa [Int.neg_mul_neg] at this
 have h2 : -(0x8000000000000000*0x8000000000000000)<=a*b:=by
  rcases Int.le_total 0 a with h | h<;>rcases Int.le_total 0 b with h' | h'
  ·have:0<=a*b:=Int.mul_nonneg h h'
   omega
  ·have:a*(-b)<=0x8000000000000000*0x8000000000000000:=Int.mul_le_mul (by omega) (by omega) (by omega) (by omega)
   rw [Int.mul_neg] at this;omega
  ·have:(-a)*b<=0x8000000000000000*0x8000000000000000:=Int.mul_le_mul (by omega) (by omega) (by omega) (by omega)
   rw [Int.neg_mul] at this;omega
  ·have:0<=a*b:=Int.mul_nonneg_of_nonpos_of_nonpos h h'
   omega
 omega
theorem j5:Ok Tryz.prog 158 aGd:=eT (aG Tryz.func158 Ep.ent Ep.aA eQ) (by simp [Ep.c]) fun a b ha hb _=>by
 simp at ha hb
 have f1 : -0x80000000000000000000000000000000<=a/\a<0x80000000000000000000000000000000:=by omega
 have f2 : -0x80000000000000000000000000000000<=b/\b<0x80000000000000000000000000000000:=by omega
 have f3:=aJB ha hb
 exact ⟨0,by simp [Ep.c,ha,hb,f1,f2,f3]⟩
theorem Mp:Ok Tryz.prog 159 S2:=eT (aG Tryz.func159 yP.ent yP.aA eQ) (by simp [yP.c]) fun x y hx hy _=>by
 simp at hx hy
 refine ⟨0,?_⟩
 by_cases f1 : -0x80000000000000000000000000000000<=x+y/\x+y<0x80000000000000000000000000000000<;>simp [yP.c,hx,hy,f1,fz]
theorem D7:Ok Tryz.prog 161 aAg:=eT (aG Tryz.func161 yN.ent yN.aA eQ) (by simp [yN.c]) fun x y hx hy _=>by
 simp at hx hy
 refine ⟨0,?_⟩
 by_cases f1 : -0x80000000000000000000000000000000<=x-y/\x-y<0x80000000000000000000000000000000<;>simp [yN.c,hx,hy,f1,fz]
def rC (l:Int×Int×Int):Int:=fz (iI (iI (l.1*86400)+l.2.1)*0xde0b6b3a7640000+l.2.2)
def rB (d:Int):Int:=rC (d,0,0)
abbrev aEU:=s1 dV dX fun l=> .o (wd (rC l))
theorem Ph:Ok Tryz.prog 124 aEU:=cA (aG Tryz.func124 Ce.ent Ce.aA (aB j5 (aB Mp eQ))) (by simp [Ce.c]) fun l hl _=>by
 obtain ⟨d,s,a⟩:=l
 simp at hl
 have f1:=Rp (iI (d*86400)+s)
 have f2:=(Wa f1).2
 have f3 : -0x80000000000000000000000000000000<=a/\a<0x80000000000000000000000000000000:=by omega
 exact ⟨0,by simp [Ce.c,hl,Bc,f1,f2,f3,rC]⟩
abbrev aDN:=s1 bF dX fun d=> .o (wd (rB d))
theorem Nc:Ok Tryz.prog 123 aDN:=cA (aG Tryz.func123 Dy.ent Dy.aA (aB Ph aH)) (by simp [Dy.c]) fun d hd _=>by
 simp at hd
 exact ⟨0,by simp [Dy.c,hd,rB]⟩
theorem Xr (l:Int×Int×Int) : -0x80000000000000000000000000000000<=rC l/\rC l<0x80000000000000000000000000000000:=sP _
theorem Gc (d:Int) : -0x80000000000000000000000000000000<=rB d/\rB d<0x80000000000000000000000000000000:=sP _
def gN (p:Pc) (u:Int):Int:=fz (fz (u+p.base)+mq (fz (u-p.eD)*p.fQ) p.d86)
noncomputable abbrev aDP:=s2 wN bN eO fun p u=> .o (wd (gN p u))
theorem Q6 (P d:Int) : -0x80000000000000000000000000000000<=mq P d/\mq P d<0x80000000000000000000000000000000:=by
 unfold mq
 split
 ·decide
 ·split
  ·assumption
  ·decide
theorem Ou:Ok Tryz.prog 122 aDP:=eT (aG Tryz.func122 yE.ent yE.aA (aB Mp (aB D7 eQ))) (by simp [yE.c]) fun p u hp hu _=>by
 simp at hu
 obtain ⟨p1,p2,p3,p4,p5,p6,p7,p8⟩:jY p:=hp
 have f1:=sP (u-p.eD)
 have f2:=sP (u+p.base)
 have f3:=Q6 (fz (u-p.eD)*p.fQ) p.d86
 refine ⟨0,?_⟩
 by_cases h1:p.d86<=0
 ·have e1:mq (fz (u-p.eD)*p.fQ) p.d86=0:=if_pos h1
  simp [yE.c,qB,dJ,hu,p2,p3,p4,p6,f1,f2,h1,gN,e1,cE,cD]
 ·by_cases h2 : -0x80000000000000000000000000000000<=fz (u-p.eD)*p.fQ/p.d86/\fz (u-p.eD)*p.fQ/p.d86<0x80000000000000000000000000000000
  ·have e1:mq (fz (u-p.eD)*p.fQ) p.d86=fz (u-p.eD)*p.fQ/p.d86:=by unfold mq;rw [if_neg h1,if_pos h2]
   rw [e1] at f3
   simp [yE.c,qB,dJ,hu,p2,p3,p4,p6,f1,f2,h1,h2,gN,e1]
  ·have e1:mq (fz (u-p.eD)*p.fQ) p.d86=0:=by unfold mq;rw [if_neg h1,if_neg h2]
   simp [yE.c,qB,dJ,hu,p2,p3,p4,p6,f1,f2,h1,h2,gN,e1,cE,cD]
end Go.Proofs.YtfcbohachbeamaaGreatDoor.E
end
section
namespace Go.Proofs.YtfcbohachbeamaaGreatDoor.E
open Go.VC Go.RowKit
theorem aH2 (P d:Int) (hd:d<0x80000000000000000000000000000000) : -0x80000000000000000000000000000000<=mr P d/\mr P d<0x80000000000000000000000000000000:=by
 unfold mr
 split
 ·decide
 ·split
  ·rename_i h _
   have h1:=Int.emod_nonneg P (show d≠0 by omega)
   have h2:=Int.emod_lt_of_pos P (show 0<d by omega)
   omega
  ·decide
def iP (p:Pc) (t:Int):Int:=fz (fz (fz (t-p.base)-p.eD)+1)
def zA (p:Pc) (t:Int):Int:=fz ((if mr (iP p t*p.d86) p.eH=0 then fz (mq (iP p t*p.d86) p.eH-1) else mq (iP p t*p.d86) p.eH)+p.eD)
noncomputable abbrev aEO:=s2 wN bN eO fun p t=> .o (wd (zA p t))
theorem aLu:Ok Tryz.prog 234 aEO:=eT (aG Tryz.func234 vO.ent vO.aA (aB Mp (aB D7 eQ))) (by simp [vO.c]) fun p t hp ht _=>by
 simp at ht
 obtain ⟨p1,p2,p3,p4,p5,p6,p7,p8⟩:jY p:=hp
 have f1:=sP (t-p.base)
 have f2:=sP (fz (t-p.base)-p.eD)
 have f3 : -0x80000000000000000000000000000000<=iP p t/\iP p t<0x80000000000000000000000000000000:=sP _
 have e0:fz (fz (fz (t-p.base)-p.eD)+1)=iP p t:=rfl
 have f4:=Q6 (iP p t*p.d86) p.eH
 have f5:=aH2 (iP p t*p.d86) p.eH p5.2
 have f6:=sP (mq (iP p t*p.d86) p.eH-1)
 refine ⟨0,?_⟩
 by_cases h1:p.eH<=0
 ·have e1:mq (iP p t*p.d86) p.eH=0:=if_pos h1
  have e2:mr (iP p t*p.d86) p.eH=0:=if_pos h1
  simp [e1] at f6
  simp [vO.c,qB,dJ,ht,p2,p3,p4,p5,f1,f2,f3,e0,h1,zA,e1,e2,cE,cD,f6]
 ·by_cases h2 : -0x80000000000000000000000000000000<=iP p t*p.d86/p.eH/\iP p t*p.d86/p.eH<0x80000000000000000000000000000000
  ·have e1:mq (iP p t*p.d86) p.eH=iP p t*p.d86/p.eH:=by unfold mq;rw [if_neg h1,if_pos h2]
   have e2:mr (iP p t*p.d86) p.eH=iP p t*p.d86%p.eH:=by unfold mr;rw [if_neg h1,if_pos h2]
   rw [e1] at f6
   rw [e2] at f5
   by_cases h3:iP p t*p.d86%p.eH=0
   ·simp [vO.c,qB,dJ,ht,p2,p3,p4,p5,f1,f2,f3,e0,h1,h2,zA,e1,e2,h3,cE,cD,f6]
   ·simp [vO.c,qB,dJ,ht,p2,p3,p4,p5,f1,f2,f3,e0,h1,h2,zA,e1,e2,h3,Ru,f5]
  ·have e1:mq (iP p t*p.d86) p.eH=0:=by unfold mq;rw [if_neg h1,if_neg h2]
   have e2:mr (iP p t*p.d86) p.eH=0:=by unfold mr;rw [if_neg h1,if_neg h2]
   simp [e1] at f6
   simp [vO.c,qB,dJ,ht,p2,p3,p4,p5,f1,f2,f3,e0,h1,h2,zA,e1,e2,cE,cD,f6]
def Gq (p:Pc) (u:Int):Int×Int×Int:=if u/0xde0b6b3a7640000/86400≥p.eI then (u/0xde0b6b3a7640000/86400-1,u/0xde0b6b3a7640000%86400+86400,u%0xde0b6b3a7640000) else (u/0xde0b6b3a7640000/86400,u/0xde0b6b3a7640000%86400,u%0xde0b6b3a7640000)
noncomputable abbrev aJK:=s2 wN bN eO fun p u=> .o (rH (Gq p u))
theorem aDG:Ok Tryz.prog 233 aJK:=eT (aG Tryz.func233 Ao.ent Ao.aA eQ) (by simp [Ao.c]) fun p u hp hu _=>by
 simp at hu
 obtain ⟨p1,p2,p3,p4,p5,p6,p7,p8⟩:jY p:=hp
 have q1:=Jv hu.1 hu.2 (show (0:Int)<0xde0b6b3a7640000 by decide)
 have q2:=Jv q1.1 q1.2 (show (0:Int)<86400 by decide)
 obtain ⟨r1,r2,r3⟩:=Ro hu
 have f1 : -0x8000000000000000<=u/0xde0b6b3a7640000/86400/\u/0xde0b6b3a7640000/86400<0x8000000000000000:=by omega
 have f2 : -0x8000000000000000<=u/0xde0b6b3a7640000%86400/\u/0xde0b6b3a7640000%86400<0x8000000000000000:=by omega
 have f3 : -0x8000000000000000<=u%0xde0b6b3a7640000/\u%0xde0b6b3a7640000<0x8000000000000000:=by omega
 have f4 : -0x80000000000000000000000000000000<=u/0xde0b6b3a7640000%86400/\u/0xde0b6b3a7640000%86400<0x80000000000000000000000000000000:=by omega
 have f5 : -0x80000000000000000000000000000000<=u%0xde0b6b3a7640000/\u%0xde0b6b3a7640000<0x80000000000000000000000000000000:=by omega
 have w1:IntKind.i64.wrap (u/0xde0b6b3a7640000/86400-1)=u/0xde0b6b3a7640000/86400-1:=aD (by omega) (by omega)
 have w2:IntKind.i64.wrap (u/0xde0b6b3a7640000%86400+86400)=u/0xde0b6b3a7640000%86400+86400:=aD (by omega) (by omega)
 refine ⟨0,?_⟩
 by_cases h:u/0xde0b6b3a7640000/86400≥p.eI
 ·simp [Ao.c,qB,dJ,hu,q1,q2,f1,f2,f3,f4,f5,w1,w2,Gq,h]
 ·have h':=Int.not_le.1 h
  simp [Ao.c,qB,dJ,hu,q1,q2,f1,f2,f3,f4,f5,w1,w2,Gq,h,h']
abbrev aPK:=s3 bF bF bF lB fun n a b=> .o (bv (decide (a<=n/\n<=b)))
theorem L4:Ok Tryz.prog 157 aPK:=yK (aG Tryz.func157 Cc.ent Cc.aA aH) (by simp [Cc.c]) fun n a b hn ha hb _=>by
 refine ⟨0,?_⟩
 by_cases h1:a<=n<;>by_cases h2:n<=b<;>simp [Cc.c,h1,h2]
theorem aGH:Ok Tryz.prog 187 Vf:=cA (aG Tryz.func187 Eu.ent Eu.aA (aB L4 aH)) (by simp [Eu.c]) fun l hl _=>by
 obtain ⟨d,s,a⟩:=l
 simp at hl
 refine ⟨0,?_⟩
 have e:(a<=0xde0b6b3a763ffff)=(a<0xde0b6b3a7640000):=propext (by omega)
 by_cases h1:0<=s<;>by_cases h2:s<=86400<;>by_cases h3:0<=a<;>by_cases h4:a<0xde0b6b3a7640000<;>simp [Eu.c,hl,iJ,e,h1,h2,h3,h4]
def lW (p:Pc):Bool:=decide (p.fin<=gN p (rB (iI (p.eI-1))))||decide (p.fin>gN p (rC (p.eI,1,0)))
noncomputable abbrev aJq:=s1 wN dX fun p=> .o (bv (lW p))
theorem Eb (p:Pc) (u:Int) : -0x80000000000000000000000000000000<=gN p u/\gN p u<0x80000000000000000000000000000000:=sP _
theorem aEQ:Ok Tryz.prog 164 aJq:=cA (aG Tryz.func164 xM.ent xM.aA (aB Ou (aB Nc (aB Ph eQ)))) (by simp [xM.c]) fun p hp _=>by
 have hp':jY p:=hp
 have v1:=Hk hp'
 have v2:=Gy hp'
 obtain ⟨p1,p2,p3,p4,p5,p6,p7,p8⟩:=hp'
 have f0:=Rp (p.eI-1)
 have f1:=Gc (iI (p.eI-1))
 have f2:=Xr (p.eI,1,0)
 have f3:=Eb p (rB (iI (p.eI-1)))
 have f4:=Eb p (rC (p.eI,1,0))
 refine ⟨0,?_⟩
 by_cases h:p.fin<=gN p (rB (iI (p.eI-1)))
 ·simp [xM.c,qB,dJ,v1,v2,p7,p8,Bc,f0,f1,f2,f3,f4,lW,h]
 ·have h':=Int.not_le.1 h
  by_cases h2:p.fin>gN p (rC (p.eI,1,0))
  ·simp [xM.c,qB,dJ,v1,v2,p7,p8,Bc,f0,f1,f2,f3,f4,lW,h,h',h2]
  ·have h2':=Int.not_lt.1 h2
   simp [xM.c,qB,dJ,v1,v2,p7,p8,Bc,f0,f1,f2,f3,f4,lW,h,h',h2,h2']
def pJ:Nat->List Pc->Int
 | _,[]=> -1
 | k,p::r=>if lW p then k else pJ (k+1) r
theorem U8 : ∀ (l:List Pc) (k:Nat),(0<=pJ k l)↔l.any lW=true
 | [],k=>by simp [pJ]
 | p::r,k=>by
  by_cases h:lW p=true
  ·simp [pJ,h]
  ·simp [pJ,h,U8 r (k+1)]
noncomputable abbrev aOD:=s2 Kj Ch (fun l f=>f=164/\l.length<=1000) fun ps _=> .o (iv .i64 (pJ 0 ps))
theorem aLC:Ok Tryz.prog 213 aOD:=eT (aG (sf:=oK.c) rfl oK.ent oK.aA (aB aEQ aH)) (by simp [oK.c]) fun ps f hp hf hg=>by
 obtain ⟨rfl,hn⟩:=hg
 replace hp:kJ ps:=hp
 refine ⟨ps.length+1,?_⟩
 simp only [oK.c,fL,fC,fJ,fG]
 simp [Vk,Wu]
 refine lL (fun m s=> ∃ pre rest,ps=pre++rest/\m=rest.length/\pJ 0 ps=pJ pre.length rest/\s.tm 0 = .o (.c (.q 14 (dI ps)))/\s.tm 1 = .o (.c (.fn 164 []))/\s.tm 7 = .o (iv .i64 (ps.length:Int))/\s.tm 8 = .o (iv .i64 (pre.length:Int))) ?_ (ps.length+1) ps.length _ (by omega) ?_
 ·rintro m s ⟨pre,rest,hsp,rfl,hi,t0,t1,t7,t8⟩
  cases rest with
  | nil=>
   have e1:pre.length=ps.length:=by rw [hsp];simp
   simp only [pJ] at hi
   simp [oK.l1,t0,t1,t7,t8,e1,hi]
  | cons p r=>
   have hl:ps.length=pre.length+(r.length+1):=by rw [hsp];simp
   have c1:(pre.length:Int)<(ps.length:Int):=by omega
   have w0:IntKind.i64.wrap ((pre.length:Int)+1)=(pre.length:Int)+1:=aD (by omega) (by omega)
   have hpp:jY p:=hp p (by rw [hsp];simp)
   have v1:=Hk hpp
   have v2:=Gy hpp
   have g1:(dI ps).drop (pre.length*14)=iF p++dI r:=by rw [hsp];exact Rc
   have g2:=Bh ps
   have g3:pre.length*14+14<=ps.length*14:=by omega
   generalize dI ps=R at *
   by_cases hb:lW p=true
   ·simp only [pJ,hb,if_true] at hi
    simp [oK.l1,t0,t1,t7,t8,c1,g1,g2,g3,iF,v1,v2,hb,hi]
   ·have hb':lW p=false:=by simpa using hb
    simp only [pJ,hb',Bool.false_eq_true,if_false] at hi
    simp [oK.l1,t0,t1,t7,t8,c1,g1,g2,g3,iF,v1,v2,hb',w0]
    exact ⟨r.length,by omega,pre ++ [p],r,by rw [hsp];simp,rfl,by rw [hi];simp,by simp⟩
 ·exact ⟨[],ps,rfl,rfl,rfl,by simp,by simp,by simp,by simp⟩
noncomputable abbrev aFW:=s2 Kj Ch (fun l f=>f=164/\l.length<=1000) fun ps _=> .o (bv (ps.any lW))
theorem aFe:Ok Tryz.prog 163 aFW:=eT (aG (sf:=xB.c) rfl xB.ent xB.aA (aB aLC aH)) (by simp [xB.c]) fun ps f hp hf hg=>by
 obtain ⟨rfl,hn⟩:=hg
 replace hp:kJ ps:=hp
 refine ⟨0,?_⟩
 have hb:=U8 ps 0
 by_cases h:0<=pJ 0 ps
 ·have h2:=hb.1 h
  simp [xB.c,Vk,Qu hp,Vo hp,hn,h]
  simpa using h2
 ·have h2 : ¬ ps.any lW=true:=fun h'=>h (hb.2 h')
  have h3:=Int.not_le.1 h
  simp [xB.c,Vk,Qu hp,Vo hp,hn,h,h3]
  simpa using h2
noncomputable abbrev aEM:=s1 Fm (fun l=>l.length<=1000) fun ps=> .o (bv (!ps.any lW))
theorem aJF:Ok Tryz.prog 125 aEM:=cA (aG Tryz.func125 Eo.ent Eo.aA (aB aFe aH)) (by simp [Eo.c]) fun ps hp hn=>by
 replace hp:kJ ps:=hp
 exact ⟨0,by simp [-List.any_eq_true,-List.any_eq_false,Eo.c,Cy,Qu hp,Vo hp,hn]⟩
noncomputable abbrev aHt:=s1 Fm (fun l=>l ≠ []) fun ps=> .o (iv .i64 (ps.getD 0 ⟨0,0,0,0,0,0,0,0⟩).d)
theorem aFd:Ok Tryz.prog 188 aHt:=cA (aG Tryz.func188 Fo.ent Fo.aA aH) (by simp [Fo.c]) fun ps hp hn=>by
 cases ps with
 | nil=>exact absurd rfl hn
 | cons p r=>exact ⟨0,by simp [Fo.c,Cy,dI,iF]⟩
def kW:List Pc->Int×Int×Int->Int×Int
 | [],_=>(0,9)
 | p::r,l=>if l.1≥p.eI then kW r l else if (l.2.1=86400/\l.1≠iI (p.eI-1))∨p.fin<=gN p (rC l) then (0,6) else (gN p (rC l),0)
def mT (ps:List Pc) (l:Int×Int×Int):Int×Int:=if iJ l then (if l.1<(ps.getD 0 ⟨0,0,0,0,0,0,0,0⟩).d then (0,8) else kW ps l) else (0,1)
noncomputable abbrev aRv:=s2 Fm dV (fun l _=>l ≠ []/\l.length<=1000) fun ps l=> .t [wd (mT ps l).1,iv .i64 (mT ps l).2]
theorem aIB:Ok Tryz.prog 139 aRv:=eT (aG Tryz.func139 jN.ent jN.aA (aB aGH (aB aFd (aB Ph (aB Ou eQ))))) (by simp [jN.c]) fun ps l hp hl hn=>by
 obtain ⟨hn,hlen⟩:=hn
 obtain ⟨d,s,a⟩:=l
 replace hp:kJ ps:=hp
 simp at hl
 have u1:=Kd hp
 have u2:=Jr hp
 refine ⟨ps.length+1,?_⟩
 by_cases h1:iJ (d,s,a)
 ·by_cases h2:d<(ps.getD 0 ⟨0,0,0,0,0,0,0,0⟩).d
  ·simp [-List.getD_eq_getElem?_getD,jN.c,Cy,u1,u2,hl,hn,h1,h2,mT,cE,cD]
  ·have h2':=Int.not_lt.1 h2
   simp only [mT,if_pos h1,if_neg h2]
   simp only [jN.c,fL,fC,fJ,fG]
   simp [-List.getD_eq_getElem?_getD,Cy,u1,u2,hl,hn,h1,h2,h2',Wu]
   refine lL (fun m s'=> ∃ pre rest,ps=pre++rest/\m=rest.length/\kW ps (d,s,a)=kW rest (d,s,a)/\s'.tm 3 = .o (.c (.p 3 0))/\s'.tm 4 = .o (.c (.p 4 0))/\s'.tm 5 = .o (iv .i64 0)/\s'.tm 28 = .o (.c (.q 14 (dI ps)))/\s'.tm 29 = .o (iv .i64 (ps.length:Int))/\s'.tm 30 = .o (iv .i64 (pre.length:Int)) /\
    s'.mem 3=some [.v (.int .i64 d),.v (.int .i64 s),.v (.int .i64 a)]/\s'.mem 4=some [.v (.int .i64 0),.v (.int .u64 0)]) ?_ (ps.length+1) ps.length _ (by omega) ?_
   ·rintro m s' ⟨pre,rest,hsp,rfl,hi,t3,t4,t5,t28,t29,t30,m3,m4⟩
    cases rest with
    | nil=>
     have e1:pre.length=ps.length:=by rw [hsp];simp
     simp only [kW] at hi
     simp [jN.l1,t3,t4,t5,t28,t29,t30,m3,m4,e1,hi,cE,cD]
    | cons p r=>
     have hll:ps.length=pre.length+(r.length+1):=by rw [hsp];simp
     have c1:(pre.length:Int)<(ps.length:Int):=by omega
     have w0:IntKind.i64.wrap ((pre.length:Int)+1)=(pre.length:Int)+1:=aD (by omega) (by omega)
     have hpp:jY p:=hp p (by rw [hsp];simp)
     have v1:=Hk hpp
     have v2:=Gy hpp
     have g1:(dI ps).drop (pre.length*14)=iF p++dI r:=by rw [hsp];exact Rc
     have g2:=Bh ps
     have g3:pre.length*14+14<=ps.length*14:=by omega
     have f1:=Xr (d,s,a)
     have f2:=Eb p (rC (d,s,a))
     have f3:=Rp (p.eI-1)
     obtain ⟨p1,p2,p3,p4,p5,p6,p7,p8⟩:=hpp
     generalize dI ps=R at *
     by_cases h3:d≥p.eI
     ·simp only [kW,if_pos h3] at hi
      simp [jN.l1,t3,t4,t5,t28,t29,t30,m3,m4,c1,g1,g2,g3,iF,v1,v2,h3,w0,hl]
      exact ⟨r.length,by omega,pre ++ [p],r,by rw [hsp];simp,rfl,hi,by simp⟩
     ·have h3':=Int.not_le.1 h3
      simp only [kW,if_neg h3] at hi
      by_cases h4:s=86400
      ·by_cases h5:d=iI (p.eI-1)
       ·by_cases h6:p.fin<=gN p (rC (d,s,a))
        ·rw [if_pos (.inr h6)] at hi
         simp [jN.l1,t3,t4,t5,t28,t29,t30,m3,m4,c1,g1,g2,g3,iF,v1,v2,h3,h3',w0,hl,f1,f2,p7,h4,h6,Bc,hi,cE,cD]
         rw [h4] at f1 f2 h6 hi
         simp [h5.symm,f1,f2,h6,hi]
        ·rw [if_neg (by rintro (h | h);exact h.2 h5;exact h6 h)] at hi
         have h6':=Int.not_le.1 h6
         simp [jN.l1,t3,t4,t5,t28,t29,t30,m3,m4,c1,g1,g2,g3,iF,v1,v2,h3,h3',w0,hl,f1,f2,p7,h4,h6,h6',Bc,hi,cE,cD]
         rw [h4] at f1 f2 h6 h6' hi
         simp [h5.symm,f1,f2,h6,h6',hi]
       ·rw [if_pos (.inl ⟨h4,h5⟩)] at hi
        simp [jN.l1,t3,t4,t5,t28,t29,t30,m3,m4,c1,g1,g2,g3,iF,v1,v2,h3,h3',w0,hl,f1,f2,p7,h4,Bc,hi,cE,cD]
        rw [h4] at f1 f2 hi
        simp [h5,f1,f2,hi]
      ·by_cases h6:p.fin<=gN p (rC (d,s,a))
       ·rw [if_pos (.inr h6)] at hi
        simp [jN.l1,t3,t4,t5,t28,t29,t30,m3,m4,c1,g1,g2,g3,iF,v1,v2,h3,h3',w0,hl,f1,f2,p7,h4,h6,hi,cE,cD]
       ·rw [if_neg (by rintro (h | h);exact h4 h.1;exact h6 h)] at hi
        have h6':=Int.not_le.1 h6
        simp [jN.l1,t3,t4,t5,t28,t29,t30,m3,m4,c1,g1,g2,g3,iF,v1,v2,h3,h3',w0,hl,f1,f2,p7,h4,h6,h6',hi]
   ·exact ⟨[],ps,rfl,rfl,rfl,by simp,by simp,by simp,by simp,by simp,by simp,by simp,by simp⟩
 ·simp [jN.c,Cy,hl,hn,h1,mT,cE,cD]
def mV:List Pc->Int->(Int×Int×Int)×Int
 | [],_=>((0,0,0),9)
 | p::r,t=>if t<p.fin then (Gq p (zA p t),0) else mV r t
def vC (ps:List Pc) (t:Int):(Int×Int×Int)×Int:=if t<gN (ps.getD 0 ⟨0,0,0,0,0,0,0,0⟩) (rB (ps.getD 0 ⟨0,0,0,0,0,0,0,0⟩).d) then ((0,0,0),8) else mV ps t
theorem O7 (p:Pc) (t:Int) : -0x80000000000000000000000000000000<=zA p t/\zA p t<0x80000000000000000000000000000000:=sP _
noncomputable abbrev aG3:=s2 Fm bN (fun l _=>l ≠ []/\l.length<=1000) fun ps t=> .t [rH (vC ps t).1,iv .i64 (vC ps t).2]
theorem aCK:Ok Tryz.prog 182 aG3:=eT (aG Tryz.func182 nV.ent nV.aA (aB Ou (aB Nc (aB aLu (aB aDG eQ))))) (by simp [nV.c]) fun ps t hp ht hn=>by
 obtain ⟨hn,hlen⟩:=hn
 replace hp:kJ ps:=hp
 simp at ht
 have u1:=Kd hp
 have u2:=Jr hp
 obtain ⟨p0,r0,h00⟩ : ∃ p0 r0,ps=p0::r0:=by
  cases ps with
  | nil=>exact absurd rfl hn
  | cons p r=>exact ⟨p,r,rfl⟩
 have e0:ps.getD 0 ⟨0,0,0,0,0,0,0,0⟩=p0:=by rw [h00];rfl
 have k0:jY p0:=hp p0 (by rw [h00];simp)
 have k1:(dI ps).drop 0=iF p0++dI r0:=by rw [h00];rfl
 have k2:=Bh ps
 have k3:14<=ps.length*14:=by rw [h00];simp;omega
 have k4:vC ps t=if t<gN p0 (rB p0.d) then ((0,0,0),8) else mV ps t:=by unfold vC;rw [e0]
 have v1:=Hk k0
 have v2:=Gy k0
 have f1:=Gc p0.d
 have f2:=Eb p0 (rB p0.d)
 have p1:=k0.1
 refine ⟨ps.length+1,?_⟩
 rw [List.drop_zero] at k1
 by_cases h1:t<gN p0 (rB p0.d)
 ·rw [if_pos h1] at k4
  simp [nV.c,Cy,u1,u2,ht,k1,k2,k3,iF,v1,v2,f1,f2,p1,h1,k4]
 ·rw [if_neg h1] at k4
  have h1':=Int.not_lt.1 h1
  rw [k4]
  simp only [nV.c,fL,fC,fJ,fG]
  simp [Cy,u1,u2,ht,k1,k2,k3,iF,v1,v2,f1,f2,p1,h1,h1',Wu]
  refine lL (fun m s'=> ∃ pre rest,ps=pre++rest/\m=rest.length/\mV ps t=mV rest t/\s'.tm 3 = .o (.c (.p 3 0))/\s'.tm 4 = .o (.c (.p 4 0))/\s'.tm 5 = .o (iv .i64 0)/\s'.tm 30 = .o (.c (.q 14 (dI ps)))/\s'.tm 31 = .o (iv .i64 (ps.length:Int))/\s'.tm 32 = .o (iv .i64 (pre.length:Int)) /\
   s'.mem 3=some [.v (.int .i64 (aQ t)),.v (.int .u64 (aT t))]/\s'.mem 4=some [.v (.int .i64 0),.v (.int .i64 0),.v (.int .i64 0)]) ?_ (ps.length+1) ps.length _ (by omega) ?_
  ·rintro m s' ⟨pre,rest,hsp,rfl,hi,t3,t4,t5,t30,t31,t32,m3,m4⟩
   cases rest with
   | nil=>
    have e1:pre.length=ps.length:=by rw [hsp];simp
    simp only [mV] at hi
    simp [nV.l1,t3,t4,t5,t30,t31,t32,m3,m4,e1,hi]
   | cons p r=>
    have hll:ps.length=pre.length+(r.length+1):=by rw [hsp];simp
    have c1:(pre.length:Int)<(ps.length:Int):=by omega
    have w0:IntKind.i64.wrap ((pre.length:Int)+1)=(pre.length:Int)+1:=aD (by omega) (by omega)
    have hpp:jY p:=hp p (by rw [hsp];simp)
    have v1:=Hk hpp
    have v2:=Gy hpp
    have g1:(dI ps).drop (pre.length*14)=iF p++dI r:=by rw [hsp];exact Rc
    have g2:=Bh ps
    have g3:pre.length*14+14<=ps.length*14:=by omega
    have f3:=O7 p t
    obtain ⟨p1,p2,p3,p4,p5,p6,p7,p8⟩:=hpp
    clear k1
    generalize dI ps=R at *
    by_cases h3:t<p.fin
    ·simp only [mV,if_pos h3] at hi
     simp [nV.l1,t3,t4,t5,t30,t31,t32,m3,m4,c1,g1,g2,g3,iF,v1,v2,h3,w0,ht,f3,p7,hi]
    ·simp only [mV,if_neg h3] at hi
     have h3':=Int.not_lt.1 h3
     simp [nV.l1,t3,t4,t5,t30,t31,t32,m3,m4,c1,g1,g2,g3,iF,v1,v2,h3,h3',w0,ht,f3,p7]
     exact ⟨r.length,by omega,pre ++ [p],r,by rw [hsp];simp,rfl,hi,by simp⟩
  ·have kl:ps.length=r0.length+1:=by rw [h00];simp
   have kq:=Bh r0
   exact ⟨[],ps,rfl,rfl,rfl,by simp,by simp,by simp,by simp [k1,iF],by simp;omega,by simp,by simp,by simp⟩
abbrev Sg:=Int×Int×Int×Int
def iG (s:Sg):Pc:=⟨s.1,s.2.1*100000000000,rB s.2.2.1,rB 1,fz (rB 1+s.2.2.2*100000000000),s.2.2.2*100000000000,0,0⟩
def qW (s:Sg):Prop:=(-1048576<=s.1/\s.1<=1048576)/\(-1000000000<=s.2.1/\s.2.1<=1000000000)/\(-1048576<=s.2.2.1/\s.2.2.1<=1048576)/\(0<=s.2.2.2/\s.2.2.2<=1000000)
instance (s:Sg):Decidable (qW s):=inferInstanceAs (Decidable (_/\_/\_/\_))
def uD (s:Sg):List AC:= [.v (.int .i64 s.1),.v (.int .i64 s.2.1),.v (.int .i64 s.2.2.1),.v (.int .i64 s.2.2.2)]
def pZ (s:Sg):List QC:= [.v (.int .i64 s.1),.v (.int .i64 s.2.1),.v (.int .i64 s.2.2.1),.v (.int .i64 s.2.2.2)]
theorem aCq {x y:Sg} (h:uD x=uD y):x=y:=by
 obtain ⟨a,b,c,d⟩:=x
 obtain ⟨a',b',c',d'⟩:=y
 simp only [uD,List.cons.injEq,AC.v.injEq,Value.int.injEq,true_and,and_true] at h
 obtain ⟨h1,h2,h3,h4⟩:=h
 rw [h1,h2,h3,h4]
noncomputable def Ob:Co Sg:=nA (0,0,0,0) (fun x=> .g (uD x)) qW (fun x y _ _ h=>aCq (by simpa using h))
theorem aGJ {x:Sg} : Ob.e x = .g (uD x):=_root_.id rfl
theorem aMg {x:Sg} (h:qW x):Ob.v (.g [.v (.int .i64 x.1),.v (.int .i64 x.2.1),.v (.int .i64 x.2.2.1),.v (.int .i64 x.2.2.2)])=True:=pR (e:=fun x=> .g (uD x)) h
theorem aHx {x:Sg} (h:qW x):Ob.t (.g [.v (.int .i64 x.1),.v (.int .i64 x.2.1),.v (.int .i64 x.2.2.1),.v (.int .i64 x.2.2.2)])=x:=pY (e:=fun x=> .g (uD x)) h
noncomputable abbrev aPm:=s1 Ob dX fun s=> .o (.g (dJ (iG s)))
theorem aNV:Ok Tryz.prog 121 aPm:=cA (aG Tryz.func121 Bo.ent Bo.aA (aB j5 (aB Nc (aB Mp aH)))) (by simp [Bo.c]) fun s hs _=>by
 obtain ⟨a,b,c,d⟩:=s
 replace hs:qW (a,b,c,d):=hs
 simp only [qW] at hs
 have i1 : -0x8000000000000000<=b/\b<0x8000000000000000:=by omega
 have i2 : -0x8000000000000000<=c/\c<0x8000000000000000:=by omega
 have i3 : -0x8000000000000000<=d/\d<0x8000000000000000:=by omega
 have f1:=Gc 1
 have f2 : -0x80000000000000000000000000000000<=d*100000000000/\d*100000000000<0x80000000000000000000000000000000:=by omega
 exact ⟨0,by simp [Bo.c,aGJ,uD,i1,i2,i3,f1,f2,iG,dJ]⟩
abbrev fZ:Sg:=(0,0,0,0)
def eV:List Sg->List QC
 | []=> []
 | s::r=>pZ s++eV r
theorem Qb : ∀ l,(eV l).length=l.length*4
 | []=>rfl
 | x::r=>by simp [eV,pZ,Qb r];omega
theorem F2 (l:List Sg):(eV l).length/4=l.length:=by rw [Qb];omega
theorem Ld : ∀ {l:List Sg} {i:Nat},i<l.length->(eV l).drop (i*4)=pZ (l.getD i fZ)++eV (l.drop (i+1))
 | [],i,h=>absurd h (by simp)
 | s::r,0,_=>rfl
 | s::r,i+1,h=>by
  have h2:(i+1)*4=i*4+1+1+1+1:=by omega
  rw [h2]
  exact Ld (l:=r) (by simpa using h)
theorem s9 : ∀ {a b:List Sg},eV a=eV b->a=b
 | [],[],_=>rfl
 | [],(_,_,_,_)::_,h=>by simp [eV,pZ] at h
 | (_,_,_,_)::_,[],h=>by simp [eV,pZ] at h
 | (a1,a2,a3,a4)::a,(b1,b2,b3,b4)::b,h=>by
  simp only [eV,pZ,List.cons_append,List.nil_append,List.cons.injEq,QC.v.injEq,Value.int.injEq,true_and] at h
  obtain ⟨rfl,rfl,rfl,rfl,h5⟩:=h
  rw [s9 h5]
noncomputable def Dw:Co (List Sg):=nA [] (fun l=> .c (.q 4 (eV l))) (fun _=>True) (fun x y _ _ h=>by
 simp only [AP.c.injEq,AC.q.injEq,true_and] at h
 exact s9 h)
theorem K0 {l:List Sg} : Dw.e l = .c (.q 4 (eV l)):=_root_.id rfl
theorem aA0 {l:List Sg} : Dw.v (.c (.q 4 (eV l)))=True:=pR (e:=fun l=> .c (.q 4 (eV l))) trivial
theorem Xw {l:List Sg} : Dw.t (.c (.q 4 (eV l)))=l:=pY (e:=fun l=> .c (.q 4 (eV l))) trivial
def Nb (l:List Sg) (day off:Int):Prop:=(1<=l.length/\l.length<=32)/\(-1048576<=day/\day<=1048576)/\(0<=off/\off<=1000)/\(l.getD (l.length-1) fZ).1<day/\(∀ i,i<l.length->qW (l.getD i fZ)) /\ ∀ i,i+1<l.length->(l.getD i fZ).1<(l.getD (i+1) fZ).1
noncomputable instance (l:List Sg) (day off:Int):Decidable (Nb l day off):=Classical.propDecidable _
noncomputable abbrev aJI:=s3 Dw bF bF (fun l day off=>Nb l day off) fun _ _ _=> .o (bv true)
theorem aDt:Ok Tryz.prog 120 aJI:=yK (aG Tryz.func120 qI.ent qI.aA (aB L4 aH)) (by simp [qI.c]) fun l day off _ hd ho hg=>by
 obtain ⟨⟨n1,n2⟩,⟨d1,d2⟩,⟨o1,o2⟩,hl,hs,hu⟩:=hg
 simp at hd ho
 have c1:(1:Int)<=(l.length:Int):=by omega
 have c2:(l.length:Int)<=32:=by omega
 have i1 : -0x8000000000000000<=(l.length:Int)/\(l.length:Int)<0x8000000000000000:=by omega
 have w1:IntKind.i64.wrap ((l.length:Int)-1)=((l.length-1:Nat):Int):=(aD (by omega) (by omega)).trans (by omega)
 have g1:=Ld (show l.length-1<l.length by omega)
 have g2:(l.length-1)*4+4<=l.length*4:=by omega
 have g3:=Qb l
 have hl' : ¬ day<=(l.getD (l.length-1) fZ).1:=by omega
 simp only [pZ] at g1
 refine ⟨l.length+1,?_⟩
 simp only [qI.c,fL,fC,fJ,fG]
 simp [-List.getD_eq_getElem?_getD,K0,hd,ho,F2,c1,c2,i1,d1,d2,o1,o2,w1,g1,g2,g3,hl,hl']
 refine iO (fun i s=>s.tm 0 = .o (.c (.q 4 (eV l)))/\s.tm 6 = .o (bv false)/\s.tm 34 = .o (.c (.q 4 (eV l)))/\s.tm 35 = .o (iv .i64 (l.length:Int))/\s.tm 36 = .o (iv .i64 (i:Int))) l.length ?_ ?_ (l.length+1) _ (by omega) ?_
 ·rintro i s hi ⟨t0,t6,t34,t35,t36⟩
  have c1:(i:Int)<(l.length:Int):=by omega
  have w0:IntKind.i64.wrap ((i:Int)+1)=(i:Int)+1:=aD (by omega) (by omega)
  have p1:=Ld hi
  have p2:i*4+4<=l.length*4:=by omega
  simp only [pZ] at p1
  obtain ⟨⟨s1,s2⟩,⟨s3,s4⟩,⟨s5,s6⟩,s7,s8⟩:=hs i hi
  have j1 : -0x8000000000000000<=(l.getD i fZ).1/\(l.getD i fZ).1<0x8000000000000000:=by omega
  have j2 : -0x8000000000000000<=(l.getD i fZ).2.1/\(l.getD i fZ).2.1<0x8000000000000000:=by omega
  have j3 : -0x8000000000000000<=(l.getD i fZ).2.2.1/\(l.getD i fZ).2.2.1<0x8000000000000000:=by omega
  have j4 : -0x8000000000000000<=(l.getD i fZ).2.2.2/\(l.getD i fZ).2.2.2<0x8000000000000000:=by omega
  cases i with
  | zero=>
   generalize l.getD 0 fZ=S at *
   generalize eV l=R at *
   simp at p1 t36 c1
   have z1:IntKind.i64.wrap 1=1:=rfl
   have p2':4<=l.length*4:=by omega
   simp [-List.getD_eq_getElem?_getD,qI.l1,t0,t6,t34,t35,t36,c1,p1,p2',g3,z1,s1,s2,s3,s4,s5,s6,s7,s8,j1,j2,j3,j4]
  | succ k=>
   have q1:=Ld (show k<l.length by omega)
   have q2:k*4+4<=l.length*4:=by omega
   simp only [pZ] at q1
   have w3:IntKind.i64.wrap ((k:Int)+1-1)=k:=(aD (by omega) (by omega)).trans (by omega)
   have hlt:=hu k hi
   have b1:0<(k:Int)+1:=by omega
   have b2:0<=(k:Int)+1:=by omega
   have hge : ¬ (l.getD (k+1) fZ).1<=(l.getD k fZ).1:=by omega
   generalize l.getD (k+1) fZ=S at *
   generalize l.getD k fZ=S' at *
   generalize eV l=R at *
   simp at w0 c1 t36
   have w4:IntKind.i64.wrap (k:Int)=k:=aD (by omega) (by omega)
   have hr0:R[k*4]? = some (.v (.int .i64 S'.1)):=by
    have:=congrArg (fun l:List QC=>l[0]?) q1
    simpa using this
   have hl1:1<=l.length*4-k*4:=by omega
   simp [-List.getD_eq_getElem?_getD,qI.l1,t0,t6,t34,t35,t36,c1,p1,p2,q2,w0,w4,hr0,hl1,b1,b2,g3,s1,s2,s3,s4,s5,s6,s7,s8,j1,j2,j3,j4,hlt,hge]
 ·rintro s ⟨t0,t6,t34,t35,t36⟩
  simp [qI.l1,t0,t6,t34,t35,t36]
 ·exact ⟨by simp,by simp,by simp,by simp,by simp⟩
def jP:List Sg:= [(37300,14228180,37300,12960),(37512,13728180,37300,12960),(37665,18458580,37665,11232),(38334,19458580,37665,11232),(38395,32401300,38761,12960),(38486,33401300,38761,12960),(38639,34401300,38761,12960),(38761,35401300,38761,12960),(38820,36401300,38761,12960),(38942,37401300,38761,12960),(39004,38401300,38761,12960),(39126,43131700,39126,25920),(39887,42131700,39126,25920)]
abbrev aLU:=s0 (.o (.c (.q 4 (eV jP))))
def Ui:List Sg->List AC
 | []=> []
 | s::r=>uD s++Ui r
theorem aNM:fS ⟨221,4,none⟩ 13 (Ui jP) = .q 4 (eV jP):=by kernel_rfl
theorem aJm:Ok Tryz.prog 87 aLU:=Vy (aG Tryz.func87 Gx.ent Gx.aA aH) ⟨0,by
 have hr:=aNM
 simp only [Ui,uD,eV,pZ,jP,List.cons_append,List.nil_append] at hr
 simp [Gx.c,eV,pZ,jP,hr]⟩
def mA:List Pc->Int->Int->List Pc
 | [],_,_=> []
 | [p],day,off=> [{ p with fin:=rC (day,off,0),eI:=day }]
 | p::q::r,day,off=> { p with fin:=gN q (rB q.d),eI:=q.d } :: mA (q::r) day off
theorem Yl : ∀ (l:List Pc) (day off:Int),(mA l day off).length=l.length
 | [],_,_=>rfl
 | [p],_,_=>rfl
 | p::q::r,day,off=>by simp [mA,Yl (q::r) day off]
theorem aN6 {A:List Pc} {p:Pc} {r:List Pc} : (cM (A++p::r)).drop (A.length*14)=dJ p++cM r:=by
 rw [Nk,← xS,List.drop_left];rfl
theorem aAH {A:List Pc} {p:Pc} {r:List Pc} : cM (A++p::r)=cM A++(dJ p++cM r):=Nk _ _
theorem aFf {s:Sg} (h:qW s):jY (iG s):=by
 obtain ⟨a,b,c,d⟩:=s
 simp only [qW] at h
 have f1:=Gc 1
 have f2:=Gc c
 have f3:=sP (rB 1+d*100000000000)
 simp only [jY,iG,pH]
 refine ⟨by omega,by omega,f2,f1,f3,by omega,by omega,by omega⟩
theorem Qo : ∀ {l:List Pc} {day off:Int},kJ l->(-0x8000000000000000<=day/\day<0x8000000000000000)->kJ (mA l day off)
 | [],_,_,_,_=>fun x hx=>by cases hx
 | [p],day,off,h,hd=>fun x hx=>by
  have hx:x = { p with fin:=rC (day,off,0),eI:=day } := by simpa [mA] using hx
  obtain ⟨h1,h2,h3,h4,h5,h6,h7,h8⟩:=h p (by simp)
  subst hx
  exact ⟨h1,h2,h3,h4,h5,h6,Xr _,hd⟩
 | p::q::r,day,off,h,hd=>fun x hx=>by
  rcases List.mem_cons.1 hx with rfl | hx
  ·obtain ⟨h1,h2,h3,h4,h5,h6,h7,h8⟩:=h p (by simp)
   exact ⟨h1,h2,h3,h4,h5,h6,Eb _ _,(h q (by simp)).1⟩
  ·exact Qo (l:=q::r) (fun y hy=>h y (by simp at hy ⊢;exact .inr hy)) hd x hx
theorem Dl (ns:List Nat) : ∀ l:List Pc,(cM l).map (fun x=>AC.kill ns x)=cM l
 | []=>rfl
 | x::l=>by simp only [cM,List.map_append,Dl ns l];rfl
theorem aGZ {l:List Pc} {n:Nat} (h:n=l.length):(cM l).take (n*14)=cM l:=List.take_of_length_le (by rw [xS];omega)
theorem K6 {A:List Pc} {p:Pc} {r:List Pc} {u F:Int} :
 List.take (A.length*14+11) (List.take (A.length*14+13) (cM (A++p::r)) ++ .v (.int .i64 u)::List.drop (A.length*14+13+1) (cM (A++p::r))) ++ .v (.int .i64 (aQ F)) :: .v (.int .u64 (aT F)) ::
  List.drop (A.length*14+11+2) (List.take (A.length*14+13) (cM (A++p::r)) ++ .v (.int .i64 u)::List.drop (A.length*14+13+1) (cM (A++p::r)))=cM ((A ++ [{ p with fin:=F,eI:=u }])++r):=by
 rw [List.append_assoc]
 show _=cM (A ++ { p with fin:=F,eI:=u } :: r)
 rw [aAH,aAH,← xS]
 generalize cM A=a
 generalize cM r=c
 have e1:List.take (a.length+13) (a++(dJ p++c))=a++List.take 13 (dJ p++c):=List.take_length_add_append 13
 have e2:List.drop (a.length+13+1) (a++(dJ p++c))=List.drop 14 (dJ p++c):=List.drop_length_add_append 14
 rw [e1,e2,List.append_assoc]
 have e3 : ∀ X:List AC,List.take (a.length+11) (a++X)=a++List.take 11 X:=fun X=>List.take_length_add_append 11
 have e4 : ∀ X:List AC,List.drop (a.length+11+2) (a++X)=List.drop 13 X:=fun X=>List.drop_length_add_append 13
 rw [e3,e4,List.append_assoc]
 rfl
theorem aHY {l:List Pc} {n:Nat} (hn:n=l.length):fS ⟨223,14,none⟩ n (cM l) = .q 14 (dI l):=by
 subst hn
 unfold fS
 have h:(cM l).take (l.length*14)=cM l:=List.take_of_length_le (by rw [xS];omega)
 rw [h,Yn,xS,if_pos (Nat.le_refl _)]
theorem aOc {l:List Pc} : Am [.q 14 (dI l)] 0 = .kq [.qv 14 (jM l)]:=by simp [Am,Bi,AC.qc,Ni]
theorem aAR {l:List Sg} (h : ∀ i,i<l.length->qW (l.getD i fZ)):kJ (l.map iG):=fun x hx=>by
 obtain ⟨s,hs,rfl⟩:=List.mem_map.1 hx
 obtain ⟨i,hi,rfl⟩:=List.getElem_of_mem hs
 have:=h i hi
 rw [List.getD_eq_getElem?_getD,List.getElem?_eq_getElem hi] at this
 exact aFf this
noncomputable abbrev aDw:=s3 Dw bF bF (fun l day off=>Nb l day off/\(mA (l.map iG) day off).any lW=false) fun l day off=> .t [.c (.kq [.qv 14 (jM (mA (l.map iG) day off))]),iv .i64 0]
theorem aRJ:Ok Tryz.prog 86 aDw:=yK (aG Tryz.func86 kQ.ent kQ.aA (aB aDt (aB aNV (aB Ou (aB Nc (aB Ph (aB aJF aH))))))) (by simp [kQ.c]) fun l day off _ hd ho hg=>by
 obtain ⟨hz,hb⟩:=hg
 have hz':=hz
 obtain ⟨⟨n1,n2⟩,⟨d1,d2⟩,⟨o1,o2⟩,hl,hs,hu⟩:=hz'
 simp at hd ho
 refine ⟨l.length+1,?_⟩
 simp only [kQ.c,fL,fC,fJ,fG]
 simp [-List.getD_eq_getElem?_getD,K0,aA0,Xw,hd,ho,hz,F2]
 refine iO (fun i s=>s.tm 1 = .o (iv .i64 day)/\s.tm 2 = .o (iv .i64 off)/\s.tm 6 = .o (.c (.v (.pointer none)))/\s.tm 7 = .o (iv .i64 0)/\s.tm 8 = .o (.c (.p 20 0))/\s.tm 21 = .o (.c (.q 4 (eV l)))/\s.tm 22 = .o (iv .i64 (l.length:Int))/\s.tm 23 = .o (iv .i64 (i:Int))/\s.mem 34=none /\
  ((i=0/\s.mem 20=some [.nil .u8]/\s.mem 35=none)∨(0<i/\s.mem 20=some [.s ⟨223,14,none⟩ 35 i]/\s.mem 35=some (cM ((l.map iG).take i))))) l.length ?_ ?_ (l.length+1) _ (by omega) ?_
 ·rintro i s hi ⟨t1,t2,t6,t7,t8,t21,t22,t23,m34,hrow⟩
  have c1:(i:Int)<(l.length:Int):=by omega
  have w0:IntKind.i64.wrap ((i:Int)+1)=(i:Int)+1:=aD (by omega) (by omega)
  have p1:=Ld hi
  have p2:i*4+4<=l.length*4:=by omega
  have g3:=Qb l
  have k1:=hs i hi
  have k2:=aMg k1
  have k3:=aHx k1
  simp only [pZ] at p1
  have hm:cM ((l.map iG).take (i+1))=cM ((l.map iG).take i)++dJ (iG (l.getD i fZ)):=by
   rw [List.take_add_one,Nk]
   congr 1
   rw [List.getD_eq_getElem?_getD]
   simp [cM,List.getElem?_eq_getElem hi]
  have hq:=xS ((l.map iG).take i)
  have hq':((l.map iG).take i).length=i:=by simp;omega
  have hq2:=aGZ hq'.symm
  rw [hq'] at hq
  generalize l.getD i fZ=S at *
  obtain ⟨P,hP⟩ : ∃ P,iG S=P:=⟨_,rfl⟩
  rw [hP] at hm
  simp only [dJ] at hm
  generalize eV l=R at *
  rcases hrow with ⟨rfl,m20,m35⟩ | ⟨h0,m20,m35⟩
  ·simp at p1 p2 t23 c1
   simp [-List.getD_eq_getElem?_getD,kQ.l1,t1,t2,t6,t7,t8,t21,t22,t23,m34,m20,m35,c1,p1,p2,g3,k2,k3,hP,dJ,Dl]
   exact ⟨rfl,by simp at hm;rw [hm];simp [cM]⟩
  ·simp [-List.getD_eq_getElem?_getD,kQ.l1,t1,t2,t6,t7,t8,t21,t22,t23,m34,m20,m35,c1,w0,p1,p2,g3,k2,k3,h0,hP,dJ,Dl,hq,hq2]
   exact ⟨by omega,hm.symm⟩
 ·rintro s ⟨t1,t2,t6,t7,t8,t21,t22,t23,m34,hrow⟩
  rcases hrow with ⟨h0,-⟩ | ⟨h0,m20,m35⟩
  ·omega
  have hM:(l.map iG).take l.length=l.map iG:=List.take_of_length_le (by simp)
  have hMl:(l.map iG).length=l.length:=by simp
  have hMp:=aAR hs
  rw [hM] at m35
  generalize l.map iG=M at *
  have hF:=Qo (day:=day) (off:=off) hMp hd
  have hFl:=Yl M day off
  generalize hres:mA M day off=RES at *
  simp [-List.getD_eq_getElem?_getD,kQ.l1,t1,t2,t6,t7,t8,t21,t22,t23,m34,m20,m35]
  refine lL (fun m s=> ∃ A rest,m=rest.length/\A.length+rest.length=l.length/\A++mA rest day off=RES/\kJ rest/\s.tm 1 = .o (iv .i64 day)/\s.tm 2 = .o (iv .i64 off)/\s.tm 6 = .o (.c (.v (.pointer none)))/\s.tm 7 = .o (iv .i64 0)/\s.tm 8 = .o (.c (.p 20 0))/\s.tm 43 = .o (iv .i64 (l.length:Int))/\s.tm 44 = .o (iv .i64 (A.length:Int)) /\
   s.mem 20=some [.s ⟨223,14,none⟩ 35 l.length]/\s.mem 35=some (cM (A++rest))) ?_ (l.length+1) l.length _ (by omega) ?_
  ·rintro m s ⟨A,rest,rfl,hlen,hA,hr,t1,t2,t6,t7,t8,t43,t44,m20,m35⟩
   cases rest with
   | nil=>
    simp at hlen
    simp only [mA,List.append_nil] at hA
    subst hA
    have hR:=aHY (l:=A) hlen.symm
    have v1:=Kd hF
    have v2:=Jr hF
    have hb' : ∀ x∈A,lW x=false:=by simpa using hb
    have hn:A.length<=1000:=by omega
    simp [-List.getD_eq_getElem?_getD,kQ.l2,t1,t2,t6,t7,t8,t43,t44,m20,m35,hlen,Dl,hR,aOc,v1,v2,hn,n2]
    exact ⟨by omega,hb'⟩
   | cons p r=>
    have c1:(A.length:Int)<(l.length:Int):=by simp at hlen;omega
    have w0:IntKind.i64.wrap ((A.length:Int)+1)=(A.length:Int)+1:=aD (by omega) (by omega)
    have b2:0<=(A.length:Int)+1:=by omega
    cases r with
    | nil=>
     have c2 : ¬ (A.length:Int)+1<(l.length:Int):=by simp at hlen;omega
     simp [-List.getD_eq_getElem?_getD,kQ.l2,t1,t2,t6,t7,t8,t43,t44,m20,m35,c1,c2,w0,hd,ho,Dl]
     have k1:(cM (A ++ [p])).length=A.length*14+14:=by rw [xS];simp;omega
     refine ⟨by omega,by omega,A ++ [{ p with fin:=rC (day,off,0),eI:=day }],[],rfl,by simpa using hlen,by rw [← hA];simp [mA],fun x hx=>(by cases hx),by simp,?_⟩
     exact K6 (A:=A) (p:=p) (r:= [])
    | cons q r=>
     have c2:(A.length:Int)+1<(l.length:Int):=by simp at hlen;omega
     have k1:(cM (A++p::q::r)).length=l.length*14:=by rw [xS];simp at hlen ⊢;omega
     have k2:(A.length+1)*14+14<=l.length*14:=by simp at hlen;omega
     have k3:(cM (A++p::q::r)).drop ((A.length+1)*14)=dJ q++cM r:=by
      have:=aN6 (A:=A ++ [p]) (p:=q) (r:=r)
      simpa using this
     simp only [dJ,List.cons_append,List.nil_append] at k3
     have kq:jY q:=hr q (by simp)
     have v1:=Hk kq
     have v2:=Gy kq
     have q1:=kq.1
     have f1:=Gc q.d
     have f2:=Eb q (rB q.d)
     have hst:=K6 (A:=A) (p:=p) (r:=q::r) (u:=q.d) (F:=gN q (rB q.d))
     have hmin:min 14 (l.length*14-(A.length+1)*14)=14:=by omega
     have hkC:(cM (A++p::q::r)).map (fun x=>AC.kill [13] x)=cM (A++p::q::r):=Dl _ _
     generalize hC:cM (A++p::q::r)=C at *
     simp [-List.getD_eq_getElem?_getD,kQ.l2,t1,t2,t6,t7,t8,t43,t44,m20,m35,c1,c2,w0,b2,hd,ho,hkC,hmin,k1,k2,k3,dJ,v1,v2,q1,f1,f2]
     refine ⟨by omega,by omega,(q::r).length,by simp,A ++ [{ p with fin:=gN q (rB q.d),eI:=q.d }],q::r,rfl,by simp at hlen ⊢;omega,by rw [← hA];simp [mA],fun x hx=>hr x (by simp at hx ⊢;exact .inr hx),by simp,hst⟩
  ·exact ⟨[],M,by omega,by simp;omega,by simpa using hres,hMp,by simp [t1],by simp [t2],by simp [t6],by simp [t7],by simp [t8],by simp,by simp,by simp [m20],by simp [m35,Dl]⟩
 ·exact ⟨by simp,by simp,by simp,by simp,by simp,by simp,by simp,by simp,by simp,.inl ⟨rfl,by simp,by simp⟩⟩
def qU:List Pc:=mA (jP.map iG) 41317 10
theorem Si:Nb jP 41317 10/\(mA (jP.map iG) 41317 10).any lW=false:=by
 refine ⟨⟨by decide,by decide,by decide,by decide,?_,?_⟩,by decide +kernel⟩
 ·have : ∀ i:Fin jP.length,qW (jP.getD i.1 fZ):=by decide +kernel
  exact fun i hi=>this ⟨i,hi⟩
 ·have : ∀ i:Fin jP.length,i.1+1<jP.length->(jP.getD i.1 fZ).1<(jP.getD (i.1+1) fZ).1:=by decide +kernel
  exact fun i hi=>this ⟨i,by omega⟩ hi
theorem aK0:kJ qU:=Qo (aAR Si.1.2.2.2.2.1) (by decide)
theorem M3:qU ≠ []/\qU.length<=1000:=by decide +kernel
def cT (es:List En) (o:Option (List Pc)) (l:Int×Int×Int):Int×Int:=
 match o with
 | some R=>if l.1<41317 then mT R l else (uT es l,uE es l)
 | none=>(uT es l,uE es l)
def Dn (x:Int) (l:Int×Int×Int):Prop:=x<=iI (iI (iI (l.1-15020)*86400)+l.2.1)
instance (x:Int) (l:Int×Int×Int):Decidable (Dn x l):=inferInstanceAs (Decidable (_<=_))
def eX (es:List En) (o:Option (List Pc)) (x:Int) (lax:Bool) (l:Int×Int×Int):Int×Int:=
 if (cT es o l).2=0 then (if lax=false/\Dn x l then (0,9) else ((cT es o l).1,0)) else (0,(cT es o l).2)
def cL (es:List En) (o:Option (List Pc)) (t:Int):(Int×Int×Int)×Int:=
 match o with
 | some R=>if (uL es t).2=8 then vC R t else uL es t
 | none=>uL es t
def kB (es:List En) (o:Option (List Pc)) (x:Int) (lax:Bool) (t:Int):(Int×Int×Int)×Int:=
 if (cL es o t).2=0 then (if lax=false/\Dn x (cL es o t).1 then ((0,0,0),9) else ((cL es o t).1,0)) else ((0,0,0),(cL es o t).2)
def Ol (p:Pc):Prop:=(0<=p.base/\p.base<=0x8ac7230489e80000)/\(37300*86400*0xde0b6b3a7640000<=p.eD/\p.eD<=39126*86400*0xde0b6b3a7640000)/\p.d86=86400*0xde0b6b3a7640000/\(86400*0xde0b6b3a7640000<=p.eH/\p.eH<0x80000000000000000000000000000000)/\(0<=p.fQ/\p.fQ<=10000000000000000)/\p.eI<=41317/\p.fin<=(41317*86400+10)*0xde0b6b3a7640000
instance (x:Pc):Decidable (Ol x):=inferInstanceAs (Decidable (_/\_/\_/\_/\_/\_/\_))
theorem aF5 {es:List En} (hk:Tb.Tk es) {s:Int} (h:Tb.S es 0<=s):aE es s=0:=by
 obtain ⟨k,hi⟩:=Tb.Md hk h
 unfold aE
 rw [Tb.Qa hk hi]
theorem aAS {es:List En} (hk:Tb.Tk es) (l:Int×Int×Int) : -0xc097ce7bc90715b34b9f1000000000<=uT es l/\uT es l<=0xc097ce7bc90715b34b9f1000000000:=by
 unfold uT
 split
 ·rename_i h
  obtain ⟨h1,h2⟩:=S5 h
  have ho:=Lg hk l.1
  obtain ⟨d,s,a⟩:=l
  simp only [iJ,bS] at h1 h2
  unfold uN
  dsimp only at *
  omega
 ·decide
def oR (es:List En):Option (List Pc):=if Tb.D es 0=41317/\Tb.O es 0=10 then some qU else none
theorem aRQ {es:List En} {l:Int×Int×Int} (h:Tb.D es 0<=l.1):cT es (oR es) l=(uT es l,uE es l):=by
 unfold oR
 split
 ·rename_i h1
  unfold cT
  dsimp only
  rw [if_neg (by omega)]
 ·rfl
theorem aSP {es:List En} (hk:Tb.Tk es) {d:Int} (h:Tb.D es 0<=d-1):oV es d-oV es (d-1)=Tb.pB es (d-1):=by
 obtain ⟨k,hi⟩:=Tb.aIJ hk h
 have e1:oV es (d-1)=Tb.O es k:=by unfold oV;rw [Tb.aK1 hk hi];rfl
 rw [e1,Tb.aKC hk hi]
 obtain ⟨h1,h2,h3⟩:=hi
 by_cases h4:k+1<es.length/\Tb.D es (k+1)-1=d-1
 ·have hi':Tb.In es (k+1) d:=⟨h4.1,by omega,fun h5=>by have:=(hk.up (k+1) h5).1;omega⟩
  have e2:oV es d=Tb.O es (k+1):=by unfold oV;rw [Tb.aK1 hk hi'];rfl
  rw [e2,if_pos h4]
 ·have hi':Tb.In es k d:=⟨h1,by omega,fun h5=>by
   have:=h3 h5
   have : ¬ Tb.D es (k+1)-1=d-1:=fun h6=>h4 ⟨h5,h6⟩
   omega⟩
  have e2:oV es d=Tb.O es k:=by unfold oV;rw [Tb.aK1 hk hi'];rfl
  rw [e2,if_neg h4];omega
end Go.Proofs.YtfcbohachbeamaaGreatDoor.E
end
