/- What the laws' code answers: part 2 of what the rows of this seat lean on. -/
import Derived.Test.YtfcbohachbeamaaGreatDoorM1
set_option linter.unusedVariables false
set_option linter.unusedSimpArgs false
set_option maxHeartbeats 8000000
set_option maxRecDepth 100000
section
namespace Go.VC
open Go.RowKit
def SA.rd:SA->List Nat
 | .t n=> [n]
 | .k _=> []
 | .nil _=> []
 | .g _=> []
 | .f _=> []
def Jg:Option SA->List Nat
 | none=> []
 | some x=>x.rd
def Hu:List (Nat×Nat×SA)->List Nat
 | []=> []
 | (_,_,x)::r=>x.rd++Hu r
def Cb:List SA->List Nat
 | []=> []
 | x::r=>x.rd++Cb r
def bA.rd:bA->List Nat
 | .mv x | .box x | .not x | .neg x | .cH _ x | .ext x _ | .len x | .load _ _ x _ | .aI _ x | .part _ _ _ x | .str x | .rL _ _ x | .cap x=>x.rd
 | .cB x | .gW _ x | .yU _ x | .rG x | .mQ x | .Ax x=>x.rd
 | .vZ _ aRR=>Cb aRR
 | .dyn x aRR=>x.rd++Cb aRR
 | .nJ x i | .cat x i | .dN _ _ x i | .Be _ x i=>x.rd++i.rd
 | .kZ x lo hi | .yA _ x lo hi=>x.rd++(Jg lo++Jg hi)
 | .pick c a b=>c.rd++(a.rd++b.rd)
 | .alloc _=> []
 | .build _ ps=>Hu ps
 | .fX _ _ _ ps | .sG _ _ _ ps=>Hu ps
 | .store _ p x _=>p.rd++x.rd
 | .bin _ x y | .qD _ x y | .eqs _ _ x y | .min x y | .nL _ x y | .app _ x y | .Bl _ x y=>x.rd++y.rd
 | .call _ aRR | .lO _ aRR | .zE _ aRR | .aM _ aRR _=>Cb aRR
 | .idx _ x i=>x.rd++i.rd
 | .sl x lo hi=>x.rd++(Jg lo++Jg hi)
def bW.rd (o:bW):List Nat:=o.op.rd++(match o.guard with | some (g,_)=> [g] | none=> [])
def bA.pW:bA->Option Nat
 | .load _ _ _ nm=>nm
 | _=>none
def bA.jH:bA->Option Nat
 | .store _ _ _ nm=>some nm
 | _=>none
def bA.nX:bA->Bool
 | .alloc _ | .box _ | .rL _ _ _ | .fX _ _ _ _ | .zE _ _=>true
 | _=>false
def bA.cm:bA->List Nat
 | .aM _ _ ρ => ρ.map (·.2)
 | _=> []
def bA.Hb:bA->Bool
 | .app _ _ _ | .lO _ _ | .Bl _ _ _=>true
 | _=>false
inductive ME where
 | no
 | nw (n:Nat) (cs:List AC)
 | st (n:Nat) (cs:List AC)
 | pa (ρ : List (Nat×Nat)) (outs:List AP)
def ME.app:ME->(Nat->Option (List AC))->Nat->Option (List AC)
 | .no,m=>m
 | .nw n cs,m=>aP m n (some cs)
 | .st n cs,m=>aP m n (some cs)
 | .pa ρ outs,m=>iL ρ outs m
theorem bX {s s2:St} {x:SA} (h : ∀ t∈x.rd,s2.tm t=s.tm t):x.ev s2=x.ev s:=by
 cases x with
 | t n=>exact h n (by simp [SA.rd])
 | k a=>rfl
 | nil e=>rfl
 | g a=>rfl
 | f n=>rfl
theorem Mh {s s2:St} : ∀ (ps:List (Nat×Nat×SA)) (cs:List AC),(∀ t∈Hu ps,s2.tm t=s.tm t)->eZ s2 cs ps=eZ s cs ps
 | [],cs,_=>rfl
 | (off,size,x)::ps,cs,h=>by
  simp only [eZ]
  rw [bX (fun t ht=>h t (by simp [Hu,ht]))]
  split
  ·split
   ·exact Mh ps _ (fun t ht=>h t (by simp [Hu,ht]))
   ·rfl
  ·rfl
theorem Fv {s s2:St} : ∀ (xs:List SA),(∀ t∈Cb xs,s2.tm t=s.tm t)->dC s2 xs=dC s xs
 | [],_=>rfl
 | x::xs,h=>by
  simp only [dC]
  rw [bX (fun t ht=>h t (by simp [Cb,ht])),Fv xs (fun t ht=>h t (by simp [Cb,ht]))]
theorem Ha {s s2:St} {x:Option SA} {d:Int} (h : ∀ t∈Jg x,s2.tm t=s.tm t):bO s2 x d=bO s x d:=by
 cases x with
 | none=>rfl
 | some x=>simp only [bO];rw [bX h]
structure Tr (sp:Spec) (d:Option Nat) (o:bA) (s:St) (v:AV) (m:ME):Prop where
 go : ∀ s2:St,(∀ t∈o.rd,s2.tm t=s.tm t)->(∀ n,o.pW=some n∨o.jH=some n->s2.mem n=s.mem n)->(∀ n cs,m = .nw n cs->s2.mem n=none)->(∀ n∈o.cm,s2.mem n=s.mem n) ->
  aC sp d o s2=some (v,{ s2 with mem:=m.app s2.mem })
 new : ∀ n cs,m = .nw n cs->o.nX=true/\d=some n/\s.mem n=none
 bZ : ∀ n cs,m = .st n cs->o.jH=some n/\s.mem n≠none
 pa : ∀ ρ outs,m = .pa ρ outs -> ρ.map (·.2)=o.cm
theorem Tr.pure {sp:Spec} {d:Option Nat} {o:bA} {s:St} {v:AV} (h : ∀ s2:St,(∀ t∈o.rd,s2.tm t=s.tm t)->aC sp d o s2=some (v,s2)) : ∃ m,({ s with mem:=m.app s.mem } : St)=s/\Tr sp d o s v m:=
 ⟨.no,rfl,{ go:=fun s2 h1 _ _ _=>h s2 h1,new:=fun _ _ e=>(by cases e),bZ:=fun _ _ e=>(by cases e),pa:=fun _ _ e=>(by cases e) }⟩
theorem aJH {sp:Spec} {d:Option Nat} {o:bA} {s s':St} {v:AV} (hh:o.Hb=false) (he:aC sp d o s=some (v,s')) : ∃ m,s' = { s with mem:=m.app s.mem } /\ Tr sp d o s v m:=by
 cases o with
 | mv x=>
  simp only [aC,Option.some.injEq,Prod.mk.injEq] at he
  obtain ⟨rfl,rfl⟩:=he
  obtain ⟨m,h1,h2⟩:=Tr.pure (sp:=sp) (d:=d) (o:= .mv x) (s:=s) (v:=x.ev s) (fun s2 h=>by simp only [aC,bX (show ∀ t∈x.rd,s2.tm t=s.tm t from h)])
  exact ⟨m,h1.symm,h2⟩
 | pick c a b=>
  have he0:=he
  simp only [aC] at he
  split at he
  ·rename_i t ht
   simp only [Option.some.injEq,Prod.mk.injEq] at he
   obtain ⟨rfl,rfl⟩:=he
   obtain ⟨m,h1,h2⟩:=Tr.pure (sp:=sp) (d:=d) (o:= .pick c a b) (s:=s) (v:=if t then a.ev s else b.ev s) (fun s2 h=>by
    have e1:c.ev s2=c.ev s:=bX (fun t ht=>h t (by simp [bA.rd,ht]))
    have e2:a.ev s2=a.ev s:=bX (fun t ht=>h t (by simp [bA.rd,ht]))
    have e3:b.ev s2=b.ev s:=bX (fun t ht=>h t (by simp [bA.rd,ht]))
    simp only [aC,e1,e2,e3,ht])
   exact ⟨m,h1.symm,h2⟩
  ·cases he
 | alloc z=>
  simp only [aC] at he
  split at he
  ·rename_i n
   split at he
   ·rename_i hn
    simp only [Option.some.injEq,Prod.mk.injEq] at he
    obtain ⟨rfl,rfl⟩:=he
    refine ⟨.nw n z,rfl,{ go:=fun s2 h1 h2 h3 _=> ?_,new:=fun n' cs e=> ?_,bZ:=fun _ _ e=>(by cases e),pa:=fun _ _ e=>(by cases e) }⟩
    ·simp only [aC,h3 n _ rfl,ME.app]
    ·cases e;exact ⟨rfl,rfl,hn⟩
   ·cases he
  ·cases he
 | box x=>
  simp only [aC] at he
  split at he
  ·rename_i n ap hap
   split at he
   ·rename_i hn
    split at he
    ·rename_i hok
     simp only [Option.some.injEq,Prod.mk.injEq] at he
     obtain ⟨rfl,rfl⟩:=he
     refine ⟨.nw n ap.cells,rfl,{ go:=fun s2 h1 h2 h3 _=> ?_,new:=fun n' cs e=> ?_,bZ:=fun _ _ e=>(by cases e),pa:=fun _ _ e=>(by cases e) }⟩
     ·have e1:x.ev s2=x.ev s:=bX h1
      simp only [aC,e1,hap,h3 n _ rfl,hok,if_true,ME.app]
     ·cases e;exact ⟨rfl,rfl,hn⟩
    ·cases he
   ·cases he
  ·cases he
 | load agg size p nm=>
  have hs:s'=s:=by
   simp only [aC] at he
   (repeat' split at he)<;>first |(cases he;rfl)| cases he
  subst hs
  refine ⟨.no,rfl,{ go:=fun s2 h1 h2 _=> ?_,new:=fun _ _ e=>(by cases e),bZ:=fun _ _ e=>(by cases e),pa:=fun _ _ e=>(by cases e) }⟩
  have e1:p.ev s2=p.ev s':=bX (fun t ht=>h1 t (by simp [bA.rd,ht]))
  have e2 : ∀ n,nm=some n->s2.mem n=s'.mem n:=fun n hn=>h2 n (.inl hn)
  simp only [aC] at he ⊢
  rw [e1]
  split at he
  ·rename_i n off hp
   split at he
   case isFalse=>cases he
   rename_i hn
   rw [if_pos hn,e2 n hn]
   (repeat' split at he)<;>first |(cases he;done)|(cases he;simp_all [ME.app];done)|(simp_all [ME.app];done)
  ·(repeat' split at he)<;>first |(cases he;done)|(cases he;simp_all [ME.app];done)|(simp_all [ME.app];done)
  ·(repeat' split at he)<;>first |(cases he;done)|(cases he;simp_all [ME.app];done)|(simp_all [ME.app];done)
  ·cases he
 | store size p x nm=>
  simp only [aC] at he
  split at he
  ·rename_i n off ap hpt hap
   split at he
   case isFalse=>cases he
   rename_i hn
   subst hn
   split at he
   ·rename_i cs hcs
    split at he
    ·rename_i hc
     simp only [Option.some.injEq,Prod.mk.injEq] at he
     obtain ⟨rfl,rfl⟩:=he
     refine ⟨.st nm (kH cs off ap.cells),rfl,{ go:=fun s2 h1 h2 h3 _=> ?_,new:=fun _ _ e=>(by cases e),bZ:=fun n' cs' e=> ?_,pa:=fun _ _ e=>(by cases e) }⟩
     ·have e1:p.ev s2=p.ev s:=bX (fun t ht=>h1 t (by simp [bA.rd,ht]))
      have e3:x.ev s2=x.ev s:=bX (fun t ht=>h1 t (by simp [bA.rd,ht]))
      have e2:s2.mem nm=s.mem nm:=h2 nm (.inr rfl)
      simp only [aC,e1,e3,hpt,hap,e2,hcs,ME.app,if_true]
      rw [if_pos hc]
     ·cases e;exact ⟨rfl,by rw [hcs];simp⟩
    ·cases he
   ·cases he
  ·cases he
 | build z ps=>
  have hs:s'=s:=by
   simp only [aC] at he
   (repeat' split at he)<;>first |(cases he;rfl)| cases he
  subst hs
  refine ⟨.no,rfl,{ go:=fun s2 h1 _ _ _=> ?_,new:=fun _ _ e=>(by cases e),bZ:=fun _ _ e=>(by cases e),pa:=fun _ _ e=>(by cases e) }⟩
  have e0:eZ s2 z ps=eZ s' z ps:=Mh ps _ (fun t ht=>h1 t ht)
  simp only [aC] at he ⊢
  simp only [e0]
  (repeat' split at he)<;>first |(cases he;done)|(cases he;simp_all [ME.app];done)|(simp_all [ME.app];done)
 | aI off p=>
  have hs:s'=s:=by
   simp only [aC] at he
   (repeat' split at he)<;>first |(cases he;rfl)| cases he
  subst hs
  refine ⟨.no,rfl,{ go:=fun s2 h1 _ _ _=> ?_,new:=fun _ _ e=>(by cases e),bZ:=fun _ _ e=>(by cases e),pa:=fun _ _ e=>(by cases e) }⟩
  have e0:p.ev s2=p.ev s':=bX (fun t ht=>h1 t (by simp [bA.rd,ht]))
  simp only [aC] at he ⊢
  simp only [e0]
  (repeat' split at he)<;>first |(cases he;done)|(cases he;simp_all [ME.app];done)|(simp_all [ME.app];done)
 | part agg off size x=>
  have hs:s'=s:=by
   simp only [aC] at he
   (repeat' split at he)<;>first |(cases he;rfl)| cases he
  subst hs
  refine ⟨.no,rfl,{ go:=fun s2 h1 _ _ _=> ?_,new:=fun _ _ e=>(by cases e),bZ:=fun _ _ e=>(by cases e),pa:=fun _ _ e=>(by cases e) }⟩
  have e0:x.ev s2=x.ev s':=bX (fun t ht=>h1 t (by simp [bA.rd,ht]))
  simp only [aC] at he ⊢
  simp only [e0]
  (repeat' split at he)<;>first |(cases he;done)|(cases he;simp_all [ME.app];done)|(simp_all [ME.app];done)
 | bin op x y=>
  have hs:s'=s:=by
   simp only [aC] at he
   (repeat' split at he)<;>first |(cases he;rfl)| cases he
  subst hs
  refine ⟨.no,rfl,{ go:=fun s2 h1 _ _ _=> ?_,new:=fun _ _ e=>(by cases e),bZ:=fun _ _ e=>(by cases e),pa:=fun _ _ e=>(by cases e) }⟩
  have e0:x.ev s2=x.ev s':=bX (fun t ht=>h1 t (by simp [bA.rd,ht]))
  have e1:y.ev s2=y.ev s':=bX (fun t ht=>h1 t (by simp [bA.rd,ht]))
  simp only [aC] at he ⊢
  simp only [e0,e1]
  (repeat' split at he)<;>first |(cases he;done)|(cases he;simp_all [ME.app];done)|(simp_all [ME.app];done)
 | qD ne x y=>
  have hs:s'=s:=by
   simp only [aC] at he
   (repeat' split at he)<;>first |(cases he;rfl)| cases he
  subst hs
  refine ⟨.no,rfl,{ go:=fun s2 h1 _ _ _=> ?_,new:=fun _ _ e=>(by cases e),bZ:=fun _ _ e=>(by cases e),pa:=fun _ _ e=>(by cases e) }⟩
  have e0:x.ev s2=x.ev s':=bX (fun t ht=>h1 t (by simp [bA.rd,ht]))
  have e1:y.ev s2=y.ev s':=bX (fun t ht=>h1 t (by simp [bA.rd,ht]))
  simp only [aC] at he ⊢
  simp only [e0,e1]
  (repeat' split at he)<;>first |(cases he;done)|(cases he;simp_all [ME.app];done)|(simp_all [ME.app];done)
 | eqs ne ks x y=>
  have hs:s'=s:=by
   simp only [aC] at he
   (repeat' split at he)<;>first |(cases he;rfl)| cases he
  subst hs
  refine ⟨.no,rfl,{ go:=fun s2 h1 _ _ _=> ?_,new:=fun _ _ e=>(by cases e),bZ:=fun _ _ e=>(by cases e),pa:=fun _ _ e=>(by cases e) }⟩
  have e0:x.ev s2=x.ev s':=bX (fun t ht=>h1 t (by simp [bA.rd,ht]))
  have e1:y.ev s2=y.ev s':=bX (fun t ht=>h1 t (by simp [bA.rd,ht]))
  simp only [aC] at he ⊢
  simp only [e0,e1]
  (repeat' split at he)<;>first |(cases he;done)|(cases he;simp_all [ME.app];done)|(simp_all [ME.app];done)
 | not x=>
  have hs:s'=s:=by
   simp only [aC] at he
   (repeat' split at he)<;>first |(cases he;rfl)| cases he
  subst hs
  refine ⟨.no,rfl,{ go:=fun s2 h1 _ _ _=> ?_,new:=fun _ _ e=>(by cases e),bZ:=fun _ _ e=>(by cases e),pa:=fun _ _ e=>(by cases e) }⟩
  have e0:x.ev s2=x.ev s':=bX (fun t ht=>h1 t (by simp [bA.rd,ht]))
  simp only [aC] at he ⊢
  simp only [e0]
  (repeat' split at he)<;>first |(cases he;done)|(cases he;simp_all [ME.app];done)|(simp_all [ME.app];done)
 | neg x=>
  have hs:s'=s:=by
   simp only [aC] at he
   (repeat' split at he)<;>first |(cases he;rfl)| cases he
  subst hs
  refine ⟨.no,rfl,{ go:=fun s2 h1 _ _ _=> ?_,new:=fun _ _ e=>(by cases e),bZ:=fun _ _ e=>(by cases e),pa:=fun _ _ e=>(by cases e) }⟩
  have e0:x.ev s2=x.ev s':=bX (fun t ht=>h1 t (by simp [bA.rd,ht]))
  simp only [aC] at he ⊢
  simp only [e0]
  (repeat' split at he)<;>first |(cases he;done)|(cases he;simp_all [ME.app];done)|(simp_all [ME.app];done)
 | cH k x=>
  have hs:s'=s:=by
   simp only [aC] at he
   (repeat' split at he)<;>first |(cases he;rfl)| cases he
  subst hs
  refine ⟨.no,rfl,{ go:=fun s2 h1 _ _ _=> ?_,new:=fun _ _ e=>(by cases e),bZ:=fun _ _ e=>(by cases e),pa:=fun _ _ e=>(by cases e) }⟩
  have e0:x.ev s2=x.ev s':=bX (fun t ht=>h1 t (by simp [bA.rd,ht]))
  simp only [aC] at he ⊢
  simp only [e0]
  (repeat' split at he)<;>first |(cases he;done)|(cases he;simp_all [ME.app];done)|(simp_all [ME.app];done)
 | ext x i=>
  have hs:s'=s:=by
   simp only [aC] at he
   (repeat' split at he)<;>first |(cases he;rfl)| cases he
  subst hs
  refine ⟨.no,rfl,{ go:=fun s2 h1 _ _ _=> ?_,new:=fun _ _ e=>(by cases e),bZ:=fun _ _ e=>(by cases e),pa:=fun _ _ e=>(by cases e) }⟩
  have e0:x.ev s2=x.ev s':=bX (fun t ht=>h1 t (by simp [bA.rd,ht]))
  simp only [aC] at he ⊢
  simp only [e0]
  (repeat' split at he)<;>first |(cases he;done)|(cases he;simp_all [ME.app];done)|(simp_all [ME.app];done)
 | call f args=>
  have hs:s'=s:=by
   simp only [aC] at he
   (repeat' split at he)<;>first |(cases he;rfl)| cases he
  subst hs
  refine ⟨.no,rfl,{ go:=fun s2 h1 _ _ _=> ?_,new:=fun _ _ e=>(by cases e),bZ:=fun _ _ e=>(by cases e),pa:=fun _ _ e=>(by cases e) }⟩
  have e0:dC s2 args=dC s' args:=Fv args (fun t ht=>h1 t ht)
  simp only [aC] at he ⊢
  simp only [e0]
  (repeat' split at he)<;>first |(cases he;done)|(cases he;simp_all [ME.app];done)|(simp_all [ME.app];done)
 | len x=>
  have hs:s'=s:=by
   simp only [aC] at he
   (repeat' split at he)<;>first |(cases he;rfl)| cases he
  subst hs
  refine ⟨.no,rfl,{ go:=fun s2 h1 _ _ _=> ?_,new:=fun _ _ e=>(by cases e),bZ:=fun _ _ e=>(by cases e),pa:=fun _ _ e=>(by cases e) }⟩
  have e0:x.ev s2=x.ev s':=bX (fun t ht=>h1 t (by simp [bA.rd,ht]))
  simp only [aC] at he ⊢
  simp only [e0]
  (repeat' split at he)<;>first |(cases he;done)|(cases he;simp_all [ME.app];done)|(simp_all [ME.app];done)
 | idx e x i=>
  have hs:s'=s:=by
   simp only [aC] at he
   (repeat' split at he)<;>first |(cases he;rfl)| cases he
  subst hs
  refine ⟨.no,rfl,{ go:=fun s2 h1 _ _ _=> ?_,new:=fun _ _ e=>(by cases e),bZ:=fun _ _ e=>(by cases e),pa:=fun _ _ e=>(by cases e) }⟩
  have e0:x.ev s2=x.ev s':=bX (fun t ht=>h1 t (by simp [bA.rd,ht]))
  have e1:i.ev s2=i.ev s':=bX (fun t ht=>h1 t (by simp [bA.rd,ht]))
  simp only [aC] at he ⊢
  simp only [e0,e1]
  (repeat' split at he)<;>first |(cases he;done)|(cases he;simp_all [ME.app];done)|(simp_all [ME.app];done)
 | sl x lo hi=>
  have hs:s'=s:=by
   simp only [aC] at he
   (repeat' split at he)<;>first |(cases he;rfl)| cases he
  subst hs
  refine ⟨.no,rfl,{ go:=fun s2 h1 _ _ _=> ?_,new:=fun _ _ e=>(by cases e),bZ:=fun _ _ e=>(by cases e),pa:=fun _ _ e=>(by cases e) }⟩
  have e0:x.ev s2=x.ev s':=bX (fun t ht=>h1 t (by simp [bA.rd,ht]))
  have e1 : ∀ d,bO s2 lo d=bO s' lo d:=fun d=>Ha (fun t ht=>h1 t (by simp [bA.rd,ht]))
  have e2 : ∀ d,bO s2 hi d=bO s' hi d:=fun d=>Ha (fun t ht=>h1 t (by simp [bA.rd,ht]))
  simp only [aC] at he ⊢
  simp only [e0,e1,e2]
  (repeat' split at he)<;>first |(cases he;done)|(cases he;simp_all [ME.app];done)|(simp_all [ME.app];done)
 | min x y=>
  have hs:s'=s:=by
   simp only [aC] at he
   (repeat' split at he)<;>first |(cases he;rfl)| cases he
  subst hs
  refine ⟨.no,rfl,{ go:=fun s2 h1 _ _ _=> ?_,new:=fun _ _ e=>(by cases e),bZ:=fun _ _ e=>(by cases e),pa:=fun _ _ e=>(by cases e) }⟩
  have e0:x.ev s2=x.ev s':=bX (fun t ht=>h1 t (by simp [bA.rd,ht]))
  have e1:y.ev s2=y.ev s':=bX (fun t ht=>h1 t (by simp [bA.rd,ht]))
  simp only [aC] at he ⊢
  simp only [e0,e1]
  split at he
  ·simp only [Option.some.injEq,Prod.mk.injEq] at he
   obtain ⟨rfl,_⟩:=he
   rfl
  ·cases he
 | cap x=>
  have hs:s'=s:=by
   simp only [aC] at he
   (repeat' split at he)<;>first |(cases he;rfl)| cases he
  subst hs
  refine ⟨.no,rfl,{ go:=fun s2 h1 _ _ _=> ?_,new:=fun _ _ e=>(by cases e),bZ:=fun _ _ e=>(by cases e),pa:=fun _ _ e=>(by cases e) }⟩
  have e0:x.ev s2=x.ev s':=bX (fun t ht=>h1 t (by simp [bA.rd,ht]))
  simp only [aC] at he ⊢
  simp only [e0]
  (repeat' split at he)<;>first |(cases he;done)|(cases he;simp_all [ME.app];done)|(simp_all [ME.app];done)
 | str x=>
  have hs:s'=s:=by
   simp only [aC] at he
   (repeat' split at he)<;>first |(cases he;rfl)| cases he
  subst hs
  refine ⟨.no,rfl,{ go:=fun s2 h1 _ _ _=> ?_,new:=fun _ _ e=>(by cases e),bZ:=fun _ _ e=>(by cases e),pa:=fun _ _ e=>(by cases e) }⟩
  have e0:x.ev s2=x.ev s':=bX (fun t ht=>h1 t (by simp [bA.rd,ht]))
  simp only [aC] at he ⊢
  simp only [e0]
  (repeat' split at he)<;>first |(cases he;done)|(cases he;simp_all [ME.app];done)|(simp_all [ME.app];done)
 | nL ne x y=>
  have hs:s'=s:=by
   simp only [aC] at he
   (repeat' split at he)<;>first |(cases he;rfl)| cases he
  subst hs
  refine ⟨.no,rfl,{ go:=fun s2 h1 _ _ _=> ?_,new:=fun _ _ e=>(by cases e),bZ:=fun _ _ e=>(by cases e),pa:=fun _ _ e=>(by cases e) }⟩
  have e0:x.ev s2=x.ev s':=bX (fun t ht=>h1 t (by simp [bA.rd,ht]))
  have e1:y.ev s2=y.ev s':=bX (fun t ht=>h1 t (by simp [bA.rd,ht]))
  simp only [aC] at he ⊢
  simp only [e0,e1]
  split at he
  ·simp only [Option.some.injEq,Prod.mk.injEq] at he
   obtain ⟨rfl,_⟩:=he
   rfl
  ·cases he
 | rL t z n=>
  simp only [aC] at he
  split at he
  ·rename_i n' k m hj
   split at he
   ·rename_i hn
    split at he
    ·rename_i hj0
     simp only [Option.some.injEq,Prod.mk.injEq] at he
     obtain ⟨rfl,rfl⟩:=he
     refine ⟨.nw n' (List.replicate m.toNat (.v z)),rfl,{ go:=fun s2 h1 h2 h3 _=> ?_,new:=fun n'' cs e=> ?_,bZ:=fun _ _ e=>(by cases e),pa:=fun _ _ e=>(by cases e) }⟩
     ·have e1:n.ev s2=n.ev s:=bX h1
      simp only [aC,e1,hj,h3 n' _ rfl,hj0,ME.app]
      simp
     ·cases e;exact ⟨rfl,rfl,hn⟩
    ·cases he
   ·cases he
  ·cases he
 | sG t z n ps=>
  have hs:s'=s:=by
   simp only [aC] at he
   (repeat' split at he)<;>first |(cases he;rfl)| cases he
  subst hs
  refine ⟨.no,rfl,{ go:=fun s2 h1 _ _ _=> ?_,new:=fun _ _ e=>(by cases e),bZ:=fun _ _ e=>(by cases e),pa:=fun _ _ e=>(by cases e) }⟩
  have e0:eZ s2 z ps=eZ s' z ps:=Mh ps _ (fun t ht=>h1 t ht)
  simp only [aC] at he ⊢
  simp only [e0]
  (repeat' split at he)<;>first |(cases he;done)|(cases he;simp_all [ME.app];done)|(simp_all [ME.app];done)
 | fX t z n ps=>
  simp only [aC] at he
  split at he
  ·rename_i n' cs hj
   split at he
   ·rename_i hn
    simp only [Option.some.injEq,Prod.mk.injEq] at he
    obtain ⟨rfl,rfl⟩:=he
    refine ⟨.nw n' cs,rfl,{ go:=fun s2 h1 h2 h3 _=> ?_,new:=fun n'' cs e=> ?_,bZ:=fun _ _ e=>(by cases e),pa:=fun _ _ e=>(by cases e) }⟩
    ·have e0:eZ s2 z ps=eZ s z ps:=Mh ps _ (fun t ht=>h1 t ht)
     simp only [aC,e0,hj,h3 n' _ rfl,ME.app]
    ·cases e;exact ⟨rfl,rfl,hn⟩
   ·cases he
  ·cases he
 | zE f args=>
  simp only [aC] at he
  split at he
  ·rename_i n' aRR has
   split at he
   case isFalse=>cases he
   rename_i hf
   split at he
   ·rename_i t n hn hr
    simp only [Option.some.injEq,Prod.mk.injEq] at he
    obtain ⟨rfl,rfl⟩:=he
    refine ⟨.nw n' [],rfl,{ go:=fun s2 h1 h2 h3 _=> ?_,new:=fun n'' cs e=> ?_,bZ:=fun _ _ e=>(by cases e),pa:=fun _ _ e=>(by cases e) }⟩
    ·have e0:dC s2 args=dC s args:=Fv args (fun t ht=>h1 t ht)
     simp only [aC,e0,has,h3 n' _ rfl,hf,if_true,hr,ME.app]
    ·cases e;exact ⟨rfl,rfl,hn⟩
   ·cases he
  ·cases he
 | cB x=>
  have hs:s'=s:=by
   simp only [aC] at he
   (repeat' split at he)<;>first |(cases he;rfl)| cases he
  subst hs
  refine ⟨.no,rfl,{ go:=fun s2 h1 _ _ _=> ?_,new:=fun _ _ e=>(by cases e),bZ:=fun _ _ e=>(by cases e),pa:=fun _ _ e=>(by cases e) }⟩
  have e0:x.ev s2=x.ev s':=bX (fun t ht=>h1 t (by simp [bA.rd,ht]))
  simp only [aC] at he ⊢
  simp only [e0]
  (repeat' split at he)<;>first |(cases he;done)|(cases he;simp_all [ME.app];done)|(simp_all [ME.app];done)
 | gW ne x=>
  have hs:s'=s:=by
   simp only [aC] at he
   (repeat' split at he)<;>first |(cases he;rfl)| cases he
  subst hs
  refine ⟨.no,rfl,{ go:=fun s2 h1 _ _ _=> ?_,new:=fun _ _ e=>(by cases e),bZ:=fun _ _ e=>(by cases e),pa:=fun _ _ e=>(by cases e) }⟩
  have e0:x.ev s2=x.ev s':=bX (fun t ht=>h1 t (by simp [bA.rd,ht]))
  simp only [aC] at he ⊢
  simp only [e0]
  (repeat' split at he)<;>first |(cases he;done)|(cases he;simp_all [ME.app];done)|(simp_all [ME.app];done)
 | vZ f caps=>
  have hs:s'=s:=by
   simp only [aC] at he
   (repeat' split at he)<;>first |(cases he;rfl)| cases he
  subst hs
  refine ⟨.no,rfl,{ go:=fun s2 h1 _ _ _=> ?_,new:=fun _ _ e=>(by cases e),bZ:=fun _ _ e=>(by cases e),pa:=fun _ _ e=>(by cases e) }⟩
  have e0:dC s2 caps=dC s' caps:=Fv caps (fun t ht=>h1 t (by simp [bA.rd,ht]))
  simp only [aC] at he ⊢
  simp only [e0]
  (repeat' split at he)<;>first |(cases he;done)|(cases he;simp_all [ME.app];done)|(simp_all [ME.app];done)
 | dyn x args=>
  have hs:s'=s:=by
   simp only [aC] at he
   (repeat' split at he)<;>first |(cases he;rfl)| cases he
  subst hs
  refine ⟨.no,rfl,{ go:=fun s2 h1 _ _ _=> ?_,new:=fun _ _ e=>(by cases e),bZ:=fun _ _ e=>(by cases e),pa:=fun _ _ e=>(by cases e) }⟩
  have e0:x.ev s2=x.ev s':=bX (fun t ht=>h1 t (by simp [bA.rd,ht]))
  have e1:dC s2 args=dC s' args:=Fv args (fun t ht=>h1 t (by simp [bA.rd,ht]))
  simp only [aC] at he ⊢
  simp only [e0,e1]
  (repeat' split at he)<;>first |(cases he;done)|(cases he;simp_all [ME.app];done)|(simp_all [ME.app];done)
 | rG x=>
  have hs:s'=s:=by
   simp only [aC] at he
   (repeat' split at he)<;>first |(cases he;rfl)| cases he
  subst hs
  refine ⟨.no,rfl,{ go:=fun s2 h1 _ _ _=> ?_,new:=fun _ _ e=>(by cases e),bZ:=fun _ _ e=>(by cases e),pa:=fun _ _ e=>(by cases e) }⟩
  have e0:x.ev s2=x.ev s':=bX (fun t ht=>h1 t (by simp [bA.rd,ht]))
  simp only [aC] at he ⊢
  simp only [e0]
  (repeat' split at he)<;>first |(cases he;done)|(cases he;simp_all [ME.app];done)|(simp_all [ME.app];done)
 | nJ x i=>
  have hs:s'=s:=by
   simp only [aC] at he
   (repeat' split at he)<;>first |(cases he;rfl)| cases he
  subst hs
  refine ⟨.no,rfl,{ go:=fun s2 h1 _ _ _=> ?_,new:=fun _ _ e=>(by cases e),bZ:=fun _ _ e=>(by cases e),pa:=fun _ _ e=>(by cases e) }⟩
  have e0:x.ev s2=x.ev s':=bX (fun t ht=>h1 t (by simp [bA.rd,ht]))
  have e1:i.ev s2=i.ev s':=bX (fun t ht=>h1 t (by simp [bA.rd,ht]))
  simp only [aC] at he ⊢
  simp only [e0,e1]
  (repeat' split at he)<;>first |(cases he;done)|(cases he;simp_all [ME.app];done)|(simp_all [ME.app];done)
 | kZ x lo hi=>
  have hs:s'=s:=by
   simp only [aC] at he
   (repeat' split at he)<;>first |(cases he;rfl)| cases he
  subst hs
  refine ⟨.no,rfl,{ go:=fun s2 h1 _ _ _=> ?_,new:=fun _ _ e=>(by cases e),bZ:=fun _ _ e=>(by cases e),pa:=fun _ _ e=>(by cases e) }⟩
  have e0:x.ev s2=x.ev s':=bX (fun t ht=>h1 t (by simp [bA.rd,ht]))
  have e1 : ∀ d,bO s2 lo d=bO s' lo d:=fun d=>Ha (fun t ht=>h1 t (by simp [bA.rd,ht]))
  have e2 : ∀ d,bO s2 hi d=bO s' hi d:=fun d=>Ha (fun t ht=>h1 t (by simp [bA.rd,ht]))
  simp only [aC] at he ⊢
  simp only [e0,e1,e2]
  (repeat' split at he)<;>first |(cases he;done)|(cases he;simp_all [ME.app];done)|(simp_all [ME.app];done)
 | cat x y=>
  have hs:s'=s:=by
   simp only [aC] at he
   (repeat' split at he)<;>first |(cases he;rfl)| cases he
  subst hs
  refine ⟨.no,rfl,{ go:=fun s2 h1 _ _ _=> ?_,new:=fun _ _ e=>(by cases e),bZ:=fun _ _ e=>(by cases e),pa:=fun _ _ e=>(by cases e) }⟩
  have e0:x.ev s2=x.ev s':=bX (fun t ht=>h1 t (by simp [bA.rd,ht]))
  have e1:y.ev s2=y.ev s':=bX (fun t ht=>h1 t (by simp [bA.rd,ht]))
  simp only [aC] at he ⊢
  simp only [e0,e1]
  (repeat' split at he)<;>first |(cases he;done)|(cases he;simp_all [ME.app];done)|(simp_all [ME.app];done)
 | mQ x=>
  have hs:s'=s:=by
   simp only [aC] at he
   (repeat' split at he)<;>first |(cases he;rfl)| cases he
  subst hs
  refine ⟨.no,rfl,{ go:=fun s2 h1 _ _ _=> ?_,new:=fun _ _ e=>(by cases e),bZ:=fun _ _ e=>(by cases e),pa:=fun _ _ e=>(by cases e) }⟩
  have e0:x.ev s2=x.ev s':=bX (fun t ht=>h1 t (by simp [bA.rd,ht]))
  simp only [aC] at he ⊢
  simp only [e0]
  (repeat' split at he)<;>first |(cases he;done)|(cases he;simp_all [ME.app];done)|(simp_all [ME.app];done)
 | yA m x lo hi=>
  have hs:s'=s:=by
   simp only [aC] at he
   (repeat' split at he)<;>first |(cases he;rfl)| cases he
  subst hs
  refine ⟨.no,rfl,{ go:=fun s2 h1 _ _ _=> ?_,new:=fun _ _ e=>(by cases e),bZ:=fun _ _ e=>(by cases e),pa:=fun _ _ e=>(by cases e) }⟩
  have e0:x.ev s2=x.ev s':=bX (fun t ht=>h1 t (by simp [bA.rd,ht]))
  have e1 : ∀ d,bO s2 lo d=bO s' lo d:=fun d=>Ha (fun t ht=>h1 t (by simp [bA.rd,ht]))
  have e2 : ∀ d,bO s2 hi d=bO s' hi d:=fun d=>Ha (fun t ht=>h1 t (by simp [bA.rd,ht]))
  simp only [aC] at he ⊢
  simp only [e0,e1,e2]
  (repeat' split at he)<;>first |(cases he;done)|(cases he;simp_all [ME.app];done)|(simp_all [ME.app];done)
 | dN m n x i=>
  have hs:s'=s:=by
   simp only [aC] at he
   (repeat' split at he)<;>first |(cases he;rfl)| cases he
  subst hs
  refine ⟨.no,rfl,{ go:=fun s2 h1 _ _ _=> ?_,new:=fun _ _ e=>(by cases e),bZ:=fun _ _ e=>(by cases e),pa:=fun _ _ e=>(by cases e) }⟩
  have e0:x.ev s2=x.ev s':=bX (fun t ht=>h1 t (by simp [bA.rd,ht]))
  have e1:i.ev s2=i.ev s':=bX (fun t ht=>h1 t (by simp [bA.rd,ht]))
  simp only [aC] at he ⊢
  simp only [e0,e1]
  (repeat' split at he)<;>first |(cases he;done)|(cases he;simp_all [ME.app];done)|(simp_all [ME.app];done)
 | Be n x i=>
  have hs:s'=s:=by
   simp only [aC] at he
   (repeat' split at he)<;>first |(cases he;rfl)| cases he
  subst hs
  refine ⟨.no,rfl,{ go:=fun s2 h1 _ _ _=> ?_,new:=fun _ _ e=>(by cases e),bZ:=fun _ _ e=>(by cases e),pa:=fun _ _ e=>(by cases e) }⟩
  have e0:x.ev s2=x.ev s':=bX (fun t ht=>h1 t (by simp [bA.rd,ht]))
  have e1:i.ev s2=i.ev s':=bX (fun t ht=>h1 t (by simp [bA.rd,ht]))
  simp only [aC] at he ⊢
  simp only [e0,e1]
  (repeat' split at he)<;>first |(cases he;done)|(cases he;simp_all [ME.app];done)|(simp_all [ME.app];done)
 | Ax x=>
  have hs:s'=s:=by
   simp only [aC] at he
   (repeat' split at he)<;>first |(cases he;rfl)| cases he
  subst hs
  refine ⟨.no,rfl,{ go:=fun s2 h1 _ _ _=> ?_,new:=fun _ _ e=>(by cases e),bZ:=fun _ _ e=>(by cases e),pa:=fun _ _ e=>(by cases e) }⟩
  have e0:x.ev s2=x.ev s':=bX (fun t ht=>h1 t (by simp [bA.rd,ht]))
  simp only [aC] at he ⊢
  simp only [e0]
  (repeat' split at he)<;>first |(cases he;done)|(cases he;simp_all [ME.app];done)|(simp_all [ME.app];done)
 | app t x y=>cases hh
 | Bl t x y=>cases hh
 | lO f args=>cases hh
 | yU ne x=>
  have hs:s'=s:=by
   simp only [aC] at he
   (repeat' split at he)<;>first |(cases he;rfl)| cases he
  subst hs
  refine ⟨.no,rfl,{ go:=fun s2 h1 _ _ _=> ?_,new:=fun _ _ e=>(by cases e),bZ:=fun _ _ e=>(by cases e),pa:=fun _ _ e=>(by cases e) }⟩
  have e0:x.ev s2=x.ev s':=bX (fun t ht=>h1 t (by simp [bA.rd,ht]))
  simp only [aC] at he ⊢
  simp only [e0]
  (repeat' split at he)<;>first |(cases he;done)|(cases he;simp_all [ME.app];done)|(simp_all [ME.app];done)
 | aM f args ρ =>
  have he0:=he
  simp only [aC] at he
  split at he
  ·rename_i aRR has
   split at he
   ·rename_i as' cs has' hcs
    split at he
    ·rename_i ns outs l hr
     split at he
     ·rename_i hc
      split at he
      ·rename_i outs' l' houts hl
       simp only [Option.some.injEq,Prod.mk.injEq] at he
       obtain ⟨rfl,rfl⟩:=he
       refine ⟨.pa ρ outs',rfl,{ go:=fun s2 h1 _ _ h4=> ?_,new:=fun _ _ e=>(by cases e),bZ:=fun _ _ e=>(by cases e),pa:=fun _ _ e=>(by cases e;rfl) }⟩
       have e0:dC s2 args=dC s args:=Fv args (fun t ht=>h1 t ht)
       have e1 : ∀ σ r,(∀ x∈r,x ∈ ρ)->bG s2.mem σ r=bG s.mem σ r:=by
        intro σ r
        induction r with
        | nil=>intro _;rfl
        | cons x r ih=>
         intro hx
         have h5:s2.mem x.2=s.mem x.2:=h4 x.2 (List.mem_map.2 ⟨x,hx x (by simp),rfl⟩)
         obtain ⟨k,n⟩:=x
         simp only [bG]
         rw [ih (fun y hy=>hx y (by simp [hy]))]
         dsimp only at h5
         rw [h5]
       have e2 : ∀ r os,(∀ x∈r,x ∈ ρ)->lY s2.mem r os=lY s.mem r os:=by
        intro r
        induction r with
        | nil=>intro os _;cases os<;>rfl
        | cons x r ih=>
         intro os hx
         have h5:s2.mem x.2=s.mem x.2:=h4 x.2 (List.mem_map.2 ⟨x,hx x (by simp),rfl⟩)
         obtain ⟨k,n⟩:=x
         cases os with
         | nil=>rfl
         | cons o os=>
          simp only [lY]
          rw [ih os (fun y hy=>hx y (by simp [hy]))]
          dsimp only at h5
          rw [h5]
       have e3:=e2 ρ outs (fun _ h=>h)
       simp only [aC,e0,has,e1 _ ρ (fun _ h=>h),has',hcs,hr,e3,hc,and_self,if_true,houts,hl,ME.app]
      ·cases he
     ·cases he
    ·cases he
   ·cases he
  ·cases he
end Go.VC
namespace Go.VC
open Go.RowKit
def bA.Ak (o:bA) (n:Option Nat):Bool:=match n with | some n=>o.pW==some n||o.jH==some n | none=>false
def bW.Lw (a b:bW):Bool:=
 (match a.dst with | some d=> !(b.rd.contains d)&&b.dst != some d | none=>true) &&
 (match b.dst with | some d=> !(a.rd.contains d)| none=>true) &&
 (match a.op.jH with | some n=> !(b.op.Ak (some n))| none=>true)&&(match b.op.jH with | some n=> !(a.op.Ak (some n))| none=>true) &&
 !(a.op.nX&&b.op.Ak a.dst) && !(b.op.nX&&a.op.Ak b.dst) && !a.op.Hb && !b.op.Hb &&
 a.op.cm.all (fun n=> !(b.op.Ak (some n)) && !(b.op.cm.contains n))&&b.op.cm.all (fun n=> !(a.op.Ak (some n))) &&
 !(a.op.nX&&(match a.dst with | some n=>b.op.cm.contains n | none=>false)) && !(b.op.nX&&(match b.dst with | some n=>a.op.cm.contains n | none=>false))
theorem Gg {o:bA} {n:Nat} (h:o.Ak (some n)=false) : ∀ m,o.pW=some m∨o.jH=some m->m≠n:=by
 simp only [bA.Ak,Bool.or_eq_false_iff,beq_eq_false_iff_ne] at h
 rintro m (hm | hm) rfl
 ·exact h.1 hm
 ·exact h.2 hm
structure aRL (a b:bW):Prop where
 i1 : ∀ d,a.dst=some d->d ∉ b.rd
 i2 : ∀ d,a.dst=some d->b.dst≠some d
 i3 : ∀ d,b.dst=some d->d ∉ a.rd
 i4 : ∀ n,a.op.jH=some n -> ∀ m,b.op.pW=some m∨b.op.jH=some m->m≠n
 i5 : ∀ n,b.op.jH=some n -> ∀ m,a.op.pW=some m∨a.op.jH=some m->m≠n
 i6:a.op.nX=true -> ∀ n,a.dst=some n -> ∀ m,b.op.pW=some m∨b.op.jH=some m->m≠n
 i7:b.op.nX=true -> ∀ n,b.dst=some n -> ∀ m,a.op.pW=some m∨a.op.jH=some m->m≠n
 i8:a.op.Hb=false
 i9:b.op.Hb=false
 c1 : ∀ n∈a.op.cm,(∀ m,b.op.pW=some m∨b.op.jH=some m->m≠n)/\n ∉ b.op.cm
 c2 : ∀ n∈b.op.cm,∀ m,a.op.pW=some m∨a.op.jH=some m->m≠n
 c3:a.op.nX=true -> ∀ n,a.dst=some n->n ∉ b.op.cm
 c4:b.op.nX=true -> ∀ n,b.dst=some n->n ∉ a.op.cm
theorem aKX {a b:bW} (h:a.Lw b=true):aRL a b:=by
 simp only [bW.Lw,Bool.and_eq_true,Bool.not_eq_true',Bool.and_eq_false_iff] at h
 obtain ⟨⟨⟨⟨⟨⟨⟨⟨⟨⟨⟨h1,h2⟩,h3⟩,h4⟩,h5⟩,h6⟩,h7⟩,h8⟩,h9⟩,h10⟩,h11⟩,h12⟩:=h
 refine ⟨fun d hd=> ?_,fun d hd=> ?_,fun d hd=> ?_,fun n hn=> ?_,fun n hn=> ?_,fun ha n hn=> ?_,fun hb n hn=> ?_,h7,h8,fun n hn=> ?_,fun n hn=> ?_,fun ha n hn=> ?_,fun hb n hn=> ?_⟩
 ·rw [hd] at h1;simp at h1;exact h1.1
 ·rw [hd] at h1;simp at h1;exact h1.2
 ·rw [hd] at h2;simpa using h2
 ·rw [hn] at h3;exact Gg (by simpa using h3)
 ·rw [hn] at h4;exact Gg (by simpa using h4)
 ·rcases h5 with h5 | h5
  ·rw [h5] at ha;cases ha
  ·rw [hn] at h5;exact Gg h5
 ·rcases h6 with h6 | h6
  ·rw [h6] at hb;cases hb
  ·rw [hn] at h6;exact Gg h6
 ·have:=List.all_eq_true.1 h9 n hn
  simp only [Bool.and_eq_true,Bool.not_eq_true'] at this
  exact ⟨Gg this.1,by simpa using this.2⟩
 ·have:=List.all_eq_true.1 h10 n hn
  exact Gg (by simpa using this)
 ·rcases h11 with h11 | h11
  ·rw [h11] at ha;cases ha
  ·rw [hn] at h11;simpa using h11
 ·rcases h12 with h12 | h12
  ·rw [h12] at hb;cases hb
  ·rw [hn] at h12;simpa using h12
def lM (tm:Nat->AV) (d:Option Nat) (v:AV):Nat->AV:=
 match d with
 | some n=>aP tm n v
 | none=>tm
theorem put_eq (s:St) (d:Option Nat) (v:AV):s.put d v = { s with tm:=lM s.tm d v } := by cases d<;>rfl
theorem aAt {tm:Nat->AV} {d:Option Nat} {v:AV} {t:Nat} (h:d≠some t):lM tm d v t=tm t:=by
 cases d with
 | none=>rfl
 | some n=>exact eK _ _ (fun e=>h (by rw [e]))
theorem aFA {α : Type} (f:Nat -> α) {n m:Nat} (x y : α) (h:n≠m):aP (aP f n x) m y=aP (aP f m y) n x:=by
 funext k
 simp only [aP]
 split<;>split<;>first | rfl |(rename_i h1 h2;exact absurd (h2.symm.trans h1) h)| skip
theorem aFS {tm:Nat->AV} {d e:Option Nat} {v u:AV} (h : ∀ k,d=some k->e≠some k):lM (lM tm d v) e u=lM (lM tm e u) d v:=by
 cases d with
 | none=>rfl
 | some n=>
  cases e with
  | none=>rfl
  | some m=>exact aFA _ _ _ (fun hnm=>h n rfl (by rw [hnm]))
structure TrO (sp:Spec) (o:bW) (s:St) (v:AV) (m:ME):Prop where
 go : ∀ s2:St,(∀ t∈o.rd,s2.tm t=s.tm t)->(∀ n,o.op.pW=some n∨o.op.jH=some n->s2.mem n=s.mem n)->(∀ n cs,m = .nw n cs->s2.mem n=none)->(∀ n∈o.op.cm,s2.mem n=s.mem n) ->
  eG sp o s2=some { tm:=lM s2.tm o.dst v,mem:=m.app s2.mem }
 new : ∀ n cs,m = .nw n cs->o.op.nX=true/\o.dst=some n/\s.mem n=none
 bZ : ∀ n cs,m = .st n cs->o.op.jH=some n/\s.mem n≠none
 pa : ∀ ρ outs,m = .pa ρ outs -> ρ.map (·.2)=o.op.cm
theorem G6 {sp:Spec} {o:bW} {s s':St} (hh:o.op.Hb=false) (he:eG sp o s=some s') : ∃ v m,s' = { tm:=lM s.tm o.dst v,mem:=m.app s.mem } /\ TrO sp o s v m:=by
 have run : ∀ {v:AV} {s1:St},aC sp o.dst o.op s=some (v,s1) -> ∃ m,s1.put o.dst v = { tm:=lM s.tm o.dst v,mem:=m.app s.mem } /\
  Tr sp o.dst o.op s v m:=by
  intro v s1 h1
  obtain ⟨m,rfl,T⟩:=aJH hh h1
  exact ⟨m,by rw [put_eq],T⟩
 have hin : ∀ t∈o.op.rd,t∈o.rd:=fun t ht=>List.mem_append_left _ ht
 cases hg:o.guard with
 | none=>
  unfold eG at he
  simp only [hg] at he
  split at he
  ·rename_i v s1 h1
   cases he
   obtain ⟨m,h2,T⟩:=run h1
   refine ⟨v,m,h2,{ go:=fun s2 g1 g2 g3 g4=> ?_,new:=T.new,bZ:=T.bZ,pa:=T.pa }⟩
   have:=T.go s2 (fun t ht=>g1 t (hin t ht)) g2 g3 g4
   unfold eG
   simp only [hg,this]
   rw [put_eq]
  ·cases he
 | some gw=>
  obtain ⟨g,want⟩:=gw
  have hgr:g∈o.rd:=by simp [bW.rd,hg]
  unfold eG at he
  simp only [hg] at he
  split at he
  ·rename_i b hb
   split at he
   ·rename_i hbw
    split at he
    ·rename_i v s1 h1
     cases he
     obtain ⟨m,h2,T⟩:=run h1
     refine ⟨v,m,h2,{ go:=fun s2 g1 g2 g3 g4=> ?_,new:=T.new,bZ:=T.bZ,pa:=T.pa }⟩
     have:=T.go s2 (fun t ht=>g1 t (hin t ht)) g2 g3 g4
     unfold eG
     simp only [hg,this,g1 g hgr,hb,hbw,if_true]
     rw [put_eq]
    ·cases he
   ·rename_i hbw
    cases he
    refine ⟨.t [],.no,by rw [put_eq];rfl,{ go:=fun s2 g1 g2 g3 g4=> ?_,new:=fun _ _ e=>(by cases e),bZ:=fun _ _ e=>(by cases e),pa:=fun _ _ e=>(by cases e) }⟩
    unfold eG
    simp only [hg,g1 g hgr,hb,hbw,if_false]
    rw [put_eq]
    rfl
  ·rename_i l hb
   cases he
   refine ⟨.t [],.no,by rw [put_eq];rfl,{ go:=fun s2 g1 g2 g3 g4=> ?_,new:=fun _ _ e=>(by cases e),bZ:=fun _ _ e=>(by cases e),pa:=fun _ _ e=>(by cases e) }⟩
   unfold eG
   simp only [hg,g1 g hgr,hb]
   rw [put_eq]
   rfl
  ·cases he
theorem Vw : ∀ {ρ : List (Nat×Nat)} {cs:List AP} {m:Nat->Option (List AC)} {n:Nat},n ∉ ρ.map (·.2)->iL ρ cs m n=m n
 | [],_,_,_,_=>rfl
 | (a,b)::r,[],_,_,_=>rfl
 | (a,b)::r,c::cs,m,n,h=>by
  simp only [List.map_cons,List.mem_cons,not_or] at h
  simp only [iL]
  rw [eK _ _ h.1,Vw h.2]
def ME.uJ:ME->List Nat
 | .no=> []
 | .nw n _=> [n]
 | .st n _=> [n]
 | .pa ρ _=> ρ.map (·.2)
theorem sS (m:ME) {f:Nat->Option (List AC)} {k:Nat} (h:k ∉ m.uJ):m.app f k=f k:=by
 cases m with
 | no=>rfl
 | nw n cs=>exact eK _ _ (by simpa [ME.uJ] using h)
 | st n cs=>exact eK _ _ (by simpa [ME.uJ] using h)
 | pa ρ outs=>exact Vw h
theorem Ym (m:ME) (k:Nat):(∃ c,∀ f:Nat->Option (List AC),m.app f k=c)∨(∀ f,m.app f k=f k):=by
 cases m with
 | no=>exact .inr fun _=>rfl
 | nw n cs=>
  by_cases h:k=n
  ·subst h;exact .inl ⟨_,fun f=>lZ _ _ _⟩
  ·exact .inr fun f=>eK _ _ h
 | st n cs=>
  by_cases h:k=n
  ·subst h;exact .inl ⟨_,fun f=>lZ _ _ _⟩
  ·exact .inr fun f=>eK _ _ h
 | pa ρ outs=>
  induction ρ generalizing outs with
  | nil=>exact .inr fun _=>rfl
  | cons x r ih=>
   obtain ⟨a,b⟩:=x
   cases outs with
   | nil=>exact .inr fun _=>rfl
   | cons c cs=>
    by_cases h:k=b
    ·subst h;exact .inl ⟨_,fun f=>lZ _ _ _⟩
    ·rcases ih cs with ⟨q,hq⟩ | hq
     ·exact .inl ⟨q,fun f=>(eK _ _ h).trans (hq f)⟩
     ·exact .inr fun f=>(eK _ _ h).trans (hq f)
theorem Xe {sp:Spec} {a:bW} {s:St} {v:AV} {m:ME} (T:TrO sp a s v m) {n:Nat} (h:n∈m.uJ):(a.op.nX=true/\a.dst=some n)∨a.op.jH=some n∨n∈a.op.cm:=by
 cases m with
 | no=>cases h
 | nw d cs => have:n=d:=by simpa [ME.uJ] using h
              subst this;obtain ⟨h1,h2,_⟩:=T.new n cs rfl;exact .inl ⟨h1,h2⟩
 | st d cs => have:n=d:=by simpa [ME.uJ] using h
              subst this;exact .inr (.inl (T.bZ n cs rfl).1)
 | pa ρ outs=>exact .inr (.inr (by rw [← T.pa ρ outs rfl];exact h))
theorem aRp {sp:Spec} {a b:bW} {s s1 s2:St} (hi:a.Lw b=true) (ha:eG sp a s=some s1) (hb:eG sp b s1=some s2) :
 ∃ s1',eG sp b s=some s1'/\eG sp a s1'=some s2:=by
 have I:=aKX hi
 obtain ⟨va,ma,rfl,TA⟩:=G6 I.i8 ha
 obtain ⟨vb,mb,rfl,TB⟩:=G6 I.i9 hb
 have tmb : ∀ t∈b.rd,lM s.tm a.dst va t=s.tm t:=fun t ht=>aAt (fun e=>I.i1 t e ht)
 have na : ∀ n,(b.op.pW=some n∨b.op.jH=some n∨n∈b.op.cm∨(b.op.nX=true/\b.dst=some n))->n ∉ ma.uJ:=by
  intro n hn ht
  rcases Xe TA ht with ⟨h1,h2⟩ | h1 | h1
  ·rcases hn with h | h | h | ⟨_,h⟩
   ·exact I.i6 h1 n h2 n (.inl h) rfl
   ·exact I.i6 h1 n h2 n (.inr h) rfl
   ·exact I.c3 h1 n h2 h
   ·exact I.i2 n h2 h
  ·rcases hn with h | h | h | ⟨h',h⟩
   ·exact I.i4 n h1 n (.inl h) rfl
   ·exact I.i4 n h1 n (.inr h) rfl
   ·exact I.c2 n h n (.inr h1) rfl
   ·exact I.i7 h' n h n (.inr h1) rfl
  ·rcases hn with h | h | h | ⟨h',h⟩
   ·exact (I.c1 n h1).1 n (.inl h) rfl
   ·exact (I.c1 n h1).1 n (.inr h) rfl
   ·exact (I.c1 n h1).2 h
   ·exact I.c4 h' n h h1
 have nb : ∀ n,(a.op.pW=some n∨a.op.jH=some n∨n∈a.op.cm∨(a.op.nX=true/\a.dst=some n))->n ∉ mb.uJ:=by
  intro n hn ht
  rcases Xe TB ht with ⟨h1,h2⟩ | h1 | h1
  ·rcases hn with h | h | h | ⟨_,h⟩
   ·exact I.i7 h1 n h2 n (.inl h) rfl
   ·exact I.i7 h1 n h2 n (.inr h) rfl
   ·exact I.c4 h1 n h2 h
   ·exact I.i2 n h h2
  ·rcases hn with h | h | h | ⟨h',h⟩
   ·exact I.i5 n h1 n (.inl h) rfl
   ·exact I.i5 n h1 n (.inr h) rfl
   ·exact (I.c1 n h).1 n (.inr h1) rfl
   ·exact I.i6 h' n h n (.inr h1) rfl
  ·rcases hn with h | h | h | ⟨h',h⟩
   ·exact I.c2 n h1 n (.inl h) rfl
   ·exact I.c2 n h1 n (.inr h) rfl
   ·exact (I.c1 n h).2 h1
   ·exact I.c3 h' n h h1
 have hB:=TB.go s (fun t ht=>(tmb t ht).symm) (fun n hn=>(sS ma (na n (by rcases hn with h | h<;>simp [h]))).symm)
  (fun n cs e=>by
   obtain ⟨h1,h2,h3⟩:=TB.new n cs e
   rw [← sS ma (f:=s.mem) (na n (.inr (.inr (.inr ⟨h1,h2⟩))))]
   exact h3)
  (fun n hn=>(sS ma (na n (.inr (.inr (.inl hn))))).symm)
 refine ⟨_,hB,?_⟩
 have tma : ∀ t∈a.rd,lM s.tm b.dst vb t=s.tm t:=fun t ht=>aAt (fun e=>I.i3 t e ht)
 have hA:=TA.go { tm:=lM s.tm b.dst vb,mem:=mb.app s.mem } tma (fun n hn=>sS mb (nb n (by rcases hn with h | h<;>simp [h])))
  (fun n cs e=>by
   obtain ⟨h1,h2,h3⟩:=TA.new n cs e
   show mb.app s.mem n=none
   rw [sS mb (nb n (.inr (.inr (.inr ⟨h1,h2⟩))))]
   exact h3)
  (fun n hn=>sS mb (nb n (.inr (.inr (.inl hn)))))
 rw [hA]
 congr 1
 have e1:lM (lM s.tm b.dst vb) a.dst va=lM (lM s.tm a.dst va) b.dst vb:=aFS (fun k hk hk2=>I.i2 k hk2 hk)
 have e2:ma.app (mb.app s.mem)=mb.app (ma.app s.mem):=by
  funext k
  by_cases hk:k∈ma.uJ
  ·have hk2:k ∉ mb.uJ:=nb k (by
    rcases Xe TA hk with h | h | h
    ·exact .inr (.inr (.inr h))
    ·exact .inr (.inl h)
    ·exact .inr (.inr (.inl h)))
   rw [sS mb hk2]
   rcases Ym ma k with ⟨c,hc⟩ | hc
   ·rw [hc,hc]
   ·rw [hc,hc,sS mb hk2]
  ·rw [sS ma hk]
   rcases Ym mb k with ⟨c,hc⟩ | hc
   ·rw [hc,hc]
   ·rw [hc,hc,sS ma hk]
 simp only [e1,e2]
def bW.Vr (a b:bW):Bool:=
 match a,b with
 | ⟨some d,.mv (.t x),none⟩,⟨some e,.app _ y z,none⟩=> !((y.rd++z.rd).contains d)&&d != e&&x != e
 | _,_=>false
def bW.indep (a b:bW):Bool:=a.Lw b||a.Vr b
theorem K7 {s:St} {d:Nat} {v:AV} {y:SA} (h:d ∉ y.rd):y.ev (s.put (some d) v)=y.ev s:=bX fun t ht=>by
 show aP s.tm d v t=s.tm t
 exact eK _ _ (fun e=>h (e ▸ ht))
theorem aG1 {t:RT} {s:St} {d:Option Nat} {v x:AV} : fY t (s.put d v) x=fY t s x:=by
 cases d<;>rfl
theorem aLz {m:Nat} {s:St} {d:Option Nat} {v x:AV} : fE m (s.put d v) x=fE m s x:=by
 cases d<;>rfl
theorem aQc {sp:Spec} {a b:bW} {s s1 s2:St} (hi:a.Vr b=true) (ha:eG sp a s=some s1) (hb:eG sp b s1=some s2) :
 ∃ s1',eG sp b s=some s1'/\eG sp a s1'=some s2:=by
 unfold bW.Vr at hi
 split at hi
 ·rename_i d x e t y z
  simp only [Bool.and_eq_true,Bool.not_eq_true',bne_iff_ne,ne_eq,List.contains_eq_mem,decide_eq_false_iff_not,List.mem_append,not_or] at hi
  obtain ⟨⟨⟨h1,h2⟩,h3⟩,h4⟩:=hi
  have e1:s1=s.put (some d) (s.tm x):=by
   simp only [eG,aC,SA.ev,Option.some.injEq] at ha
   exact ha.symm
  subst e1
  simp only [eG,aC,K7 h1,K7 h2,aG1,aLz] at hb
  have hm:(s.put (some d) (s.tm x)).mem=s.mem:=rfl
  rw [hm] at hb
  simp only [eG,aC]
  split at hb
  ·rename_i v s3 hv
   split at hv
   ·rename_i d' ns aa xs ms bb ys hd ho hl
    cases hd
    split at hv
    ·rename_i hc
     cases hv
     cases hb
     rw [if_pos hc]
     refine ⟨_,rfl,?_⟩
     simp only [SA.ev]
     simp only [St.put,St.drop,Option.some.injEq,St.mk.injEq,and_true]
     funext k
     have h4' : ¬ x=e:=h4
     simp only [aP]
     by_cases k1:k=d
     ·subst k1
      simp [h3,h4']
     ·by_cases k2:k=e
      ·subst k2;simp [k1]
      ·simp [k1,k2]
    ·cases hv
   ·cases hv
  ·cases hb
 ·cases hi
theorem swap {sp:Spec} {a b:bW} {s s1 s2:St} (hi:a.indep b=true) (ha:eG sp a s=some s1) (hb:eG sp b s1=some s2) :
 ∃ s1',eG sp b s=some s1'/\eG sp a s1'=some s2:=by
 simp only [bW.indep,Bool.or_eq_true] at hi
 rcases hi with hi | hi
 ·exact aRp hi ha hb
 ·exact aQc hi ha hb
theorem L9 {sp:Spec} {i:bW} {sn:St} (post:List bW) : ∀ (pre:List bW) {s:St},(∀ e∈pre,e.indep i=true)->gU sp (pre++i::post) s=some sn->gU sp (i::(pre++post)) s=some sn
 | [],s,_,h=>h
 | e::pre,s,hi,h=>by
  simp only [List.cons_append,gU] at h
  split at h
  ·rename_i s1 h1
   have h2:=L9 post pre (fun x hx=>hi x (by simp [hx])) h
   simp only [gU] at h2
   split at h2
   ·rename_i s2 h3
    obtain ⟨s1',g1,g2⟩:=swap (hi e (by simp)) h1 h3
    simp only [List.cons_append,gU,g1,g2]
    exact h2
   ·cases h2
  ·cases h
end Go.VC
namespace Go.VC
open Go.RowKit
section
variable {P:Program} {S0:Cx} {w0:World} {N:Nat} {μ : Nat->Nat} {s s':St} {a:Act} {w:World} {sp:Spec} {v:AV} {Q:Exit->Act->World->Prop}
theorem AC.xX {L:aY} {w:World} {d:Nat} {cs:List AC} (hd : ¬ L.D d) {c:AC} {y:Value} (h:c.rep L w y):c.rel d cs=c:=by
 cases c with
 | p m off=>simp only [AC.rel];rw [if_neg];rintro rfl;exact hd h.1
 | s t m len=>simp only [AC.rel];rw [if_neg];rintro rfl;exact hd h.1
 | fn f caps=>
  obtain ⟨us,_,h2⟩:=h
  have key : ∀ {aRR:List FC} {us:List Value},lP L w aRR us->pS d cs aRR=some aRR:=by
   intro aRR
   induction aRR with
   | nil=>intro us _;rfl
   | cons c aRR ih=>
    intro us h2
    cases us with
    | nil=>exact h2.elim
    | cons y us=>
     cases c with
     | q c=>simp only [pS,ih h2.2]
     | p m off=>
      have hm:m≠d:=fun e=>hd (e ▸ h2.1.1)
      simp only [pS,ih h2.2,if_neg hm]
  simp only [AC.rel,key h2]
 | _=>rfl
theorem So {L:aY} {w:World} {d:Nat} {cs:List AC} (hd : ¬ L.D d) : ∀ {aRR:List AC} {vs:List Value},bE L w aRR vs->aRR.map (·.rel d cs)=aRR
 | [],[],_=>rfl
 | [],_::_,h=>h.elim
 | _::_,[],h=>h.elim
 | _::_,_::_,h=>by rw [List.map_cons,AC.xX hd h.1,So hd h.2]
theorem AP.xX {L:aY} {w:World} {d:Nat} {cs:List AC} (hd : ¬ L.D d) {c:AP} {y:Value} (h:c.rep L w y):c.rel d cs=c:=by
 cases c with
 | c a=>exact congrArg AP.c (AC.xX (c:=a) hd h)
 | g aRR=>obtain ⟨vs,h1,h2⟩:=h;exact congrArg AP.g (So hd h2)
theorem Zz {L:aY} {w:World} {d:Nat} {cs:List AC} (hd : ¬ L.D d) : ∀ {aRR:List AP} {vs:List Value},cP L w aRR vs->aRR.map (·.rel d cs)=aRR
 | [],[],_=>rfl
 | [],_::_,h=>h.elim
 | _::_,[],h=>h.elim
 | _::_,_::_,h=>by rw [List.map_cons,AP.xX hd h.1,Zz hd h.2]
theorem AV.xX {L:aY} {w:World} {d:Nat} {cs:List AC} (hd : ¬ L.D d) {c:AV} {y:Value} (h:c.rep L w y):c.rel d cs=c:=by
 cases c with
 | o a=>exact congrArg AV.o (AP.xX (c:=a) hd h)
 | t l=>obtain ⟨vs,h1,h2⟩:=h;exact congrArg AV.t (Zz hd h2)
 | io a b l=>exact h.elim
theorem St.xX (R:Rel S0 w0 N μ s a w) {d:Nat} {cs:List AC} (hd:s.mem d=none):({ s with mem:=aP s.mem d (some cs) } : St).pG d=s:=by
 have hD : ¬ (own S0 μ s.mem).D d:=fun h=>h hd
 unfold St.pG
 simp only [lZ]
 have e1:(fun t=>(s.tm t).rel d cs)=s.tm:=funext fun t=>AV.xX hD (R.tmp t)
 have e2:(fun m=>if m=d then none else match aP s.mem d (some cs) m with | some c=>some (c.map (·.rel d cs))| none=>none)=s.mem:=funext fun m=>by
  by_cases hm:m=d
  ·subst hm;rw [if_pos rfl,hd]
  ·rw [if_neg hm,eK _ _ hm]
   cases hmm:s.mem m with
   | none=>rfl
   | some c0=>
    obtain ⟨_,ys,zs,T,_,hr⟩:=R.mem m c0 hmm
    dsimp only
    rw [So hD hr]
 cases s with
 | mk tm mem=>exact congr (congrArg St.mk e1) e2
theorem u9 : ∀ (N:Nat) (f:Nat->Nat),(∀ i,i<N+1->f i<N) -> ∃ i j,i<j/\j<N+1/\f i=f j
 | 0,f,h=>absurd (h 0 (by omega)) (by omega)
 | N+1,f,h=>by
  by_cases he : ∃ i,i<N+1/\f i=f (N+1)
  ·obtain ⟨i,h1,h2⟩:=he
   exact ⟨i,N+1,h1,by omega,h2⟩
  ·have hne : ∀ i,i<N+1->f i≠f (N+1):=fun i hi e=>he ⟨i,hi,e⟩
   have hv:=h (N+1) (by omega)
   obtain ⟨i,j,h1,h2,h3⟩:=u9 N (fun i=>if f i=N then f (N+1) else f i) (fun i hi=>by
    have h1:=h i (by omega)
    have h2:=hne i hi
    show (if f i=N then f (N+1) else f i)<N
    split<;>omega)
   refine ⟨i,j,h1,by omega,?_⟩
   have g1:=hne i (by omega)
   have g2:=hne j (by omega)
   have h3:(if f i=N then f (N+1) else f i)=(if f j=N then f (N+1) else f j):=h3
   split at h3<;>split at h3<;>omega
theorem Rel.free (R:Rel S0 w0 N μ s a w) : ∃ d,s.mem d=none/\S0.st d=none:=by
 obtain ⟨K,hK⟩:=S0.fin
 rcases Classical.em (∃ d,K<=d/\s.mem d=none) with ⟨d,h1,h2⟩ | h
 ·exact ⟨d,h2,hK d h1⟩
 ·exfalso
  have hn : ∀ d,s.mem (K+d)≠none:=fun d hd=>h ⟨K+d,Nat.le_add_right _ _,hd⟩
  obtain ⟨i,j,h1,_,h3⟩:=u9 w.heap.size (fun i=> μ (K+i)) (fun i _=>R.lt (K+i) (hn i))
  exact absurd (R.inj (K+i) (K+j) (hn i) (hn j) h3) (by omega)
theorem aFV {o:Oper} {dst:Option Nat} {ty:TypeId} {n:Nat} {ps:Array (Nat×Operand)} {t:RT} {z:List AC} {parts:List (Nat×Nat×SA)} (hS0:Start S0 w0) (R:Rel S0 w0 N μ s a w) (hop:o.op = .buildSlice ty n ps) (ht:pI P ty t=true) (hsm:n*t.m<=16777216) (hz:jE (xV P t.e (n*t.m)) z=true) (hp:Aw t.m ps.toList parts=true)
 (he:aC sp dst (.sG t z n parts) s=some (v,s')):Sound P S0 w0 N o s' v a w:=by
 obtain ⟨d,hd,hdst⟩:=R.free
 simp only [aC] at he
 split at he
 ·rename_i cs hcs
  ·simp only [Option.some.injEq,Prod.mk.injEq] at he
   obtain ⟨rfl,rfl⟩:=he
   have hb:aC sp (some d) (.fX t z n parts) s=some (.o (.c (.s t d n)),{ s with mem:=aP s.mem d (some cs) }):=by simp only [aC,hcs,hd]
   intro K Q hK
   refine aAn (dst:=some d) hS0 (fun n hn=>by cases hn;exact hdst) R hop ht hsm hz hp hb K Q (fun μ' y w' R1 hv=> ?_)
   have hme:(aP s.mem d (some cs)) d=some cs:=lZ _ _ _
   obtain ⟨hge,ys,zs,T,hblk,hr⟩:=R1.mem d cs hme
   have hlt:=R1.lt d (by show aP s.mem d (some cs) d≠none;rw [hme];simp)
   have hge:w0.heap.size <= μ' d:=by
    rcases hge with h | h
    ·exact h
    ·exact absurd hdst h
   have R2:=R1.pG hS0 d (fun _=>hge)
   rw [St.xX R hd] at R2
   have hx:rO d (own S0 μ' (aP s.mem d (some cs))) (own S0 μ' s.mem):=by
    refine ⟨fun m hm h=> ?_,rfl,?_,?_⟩
    ·have h:aP s.mem d (some cs) m≠none:=h
     rw [eK _ _ hm] at h
     exact h
    ·rintro b (h | ⟨m,hm,hmb⟩)
     ·exact .inl h
     ·refine .inr ⟨m,?_,hmb⟩
      have hmd:m≠d:=fun e=>hm (by rw [e];exact hd)
      show aP s.mem d (some cs) m≠none
      rw [eK _ _ hmd]
      exact hm
    ·rintro (h | ⟨m,hm,hmb⟩)
     ·have h1:=hS0.lt _ h
      have h2:w0.heap.size <= μ' d:=hge
      exact absurd h1 (Nat.not_lt.2 h2)
     ·have hmd:m≠d:=fun e=>hm (by rw [e];exact hd)
      exact hmd (R1.inj m d (by show aP s.mem d (some cs) m≠none;rw [eK _ _ hmd];exact hm) (by show aP s.mem d (some cs) d≠none;rw [hme];simp) hmb)
   have hq:=AV.Ad hx hblk hr hlt hv
   exact hK μ' y w' R2 (by simpa [AV.rel,AP.rel,AC.rel] using hq)
 ·cases he
theorem Pd {t:TypeId} {n:Nat} {e:TypeId} (h:zD P t=some (n,e)):P.underlying t=some (.array n e):=by
 unfold zD at h
 split at h
 ·cases h;assumption
 ·cases h
theorem aEC {o:Oper} {dst:Option Nat} {t:TypeId} {ps:Array (Nat×Operand)} {z:List AC} {parts:List (Nat×Nat×SA)} (R:Rel S0 w0 N μ s a w) (hop:o.op = .build t ps)
 (hz:(match (P.info? t).bind (·.zero) with | some v=>jE v.cells.toList z | none=>false)=true) (hp:Se P t ps.toList parts=true)
 (he:aC sp dst (.build z parts) s=some (v,s')):Sound P S0 w0 N o s' v a w:=by
 simp only [aC] at he
 split at he
 ·rename_i cs hcs
  simp only [Option.some.injEq,Prod.mk.injEq] at he
  obtain ⟨rfl,rfl⟩:=he
  split at hz
  ·rename_i zv hzv
   unfold Se at hp
   split at hp
   ·rename_i n el hel
    split at hp
    ·rename_i m hm
     have hu:=Pd hel
     obtain ⟨zs,hfill,hr⟩:=Rb (m:=m) R ps.toList parts z zv.cells.toList hp (Hs hz) hcs
     refine bU (y:= .agg zs.toArray) (w':=w) ?_ R ⟨zs,rfl,hr⟩
     have e:(ps.map fun x=>(x.1,a.eval x.2)).toList=ps.toList.map fun x=>(x.1,a.eval x.2):=by simp
     have e2:zv.cells.toList.toArray=zv.cells:=by simp
     rw [e2] at hfill
     simp only [execOp,hop,Instr.build,Sem.run_bind,Vz hzv,Result.andThen_ok,run_underlying hu,jV hm]
     rw [e,hfill]
     simp
    ·cases hp
   ·cases hp
  ·cases hz
 ·cases he
theorem aGL {o:Oper} {dst:Option Nat} {t:TypeId} {x i:Operand} {y:SA} {off:Nat} (R:Rel S0 w0 N μ s a w) (hop:o.op = .indexAddr t x i) (hf:Uv P t i off=true) (hx:aJ x y=true) (he:aC sp dst (.aI off y) s=some (v,s')):Sound P S0 w0 N o s' v a w:=by
 have hev:=R.ev hx
 have step : ∀ (b q:Nat),a.eval x = .pointer (some ⟨b,q,none⟩)->(execOp a.eval o).run P w = .ok (.value (.pointer (some ⟨b,q+off,none⟩))) w:=by
  intro b q hp
  unfold Uv at hf
  split at hf
  ·rename_i k j n el harr
   split at hf
   ·rename_i m hm
    simp only [Bool.and_eq_true,decide_eq_true_eq,beq_iff_eq] at hf
    obtain ⟨⟨h0,h1⟩,hoff⟩:=hf
    have hu:=Pd harr
    have ej:a.eval (Operand.const (Value.int k j)) = .int k j:=rfl
    simp only [execOp,hop,hp,ej,Instr.indexAt,Sem.run_bind,asIntOf,Sem.run_pure,Result.andThen_ok,run_underlying hu,Instr.sureAddr]
    rw [if_pos ⟨h0,h1⟩]
    simp only [Sem.run_bind,jV hm,Result.andThen_ok,Sem.run_pure,Addr.add_mid,hoff]
   ·cases hf
  ·cases hf
 simp only [aC] at he
 split at he
 ·rename_i n q hq
  simp only [Option.some.injEq,Prod.mk.injEq] at he
  obtain ⟨rfl,rfl⟩:=he
  rw [hq] at hev
  exact bU (w':=w) (step _ _ hev.2) R ⟨hev.1,rfl⟩
 ·rename_i cs hq
  simp only [Option.some.injEq,Prod.mk.injEq] at he
  obtain ⟨rfl,rfl⟩:=he
  rw [hq] at hev
  obtain ⟨b,q,h1,h2,h3,h4⟩:=hev
  exact bU (w':=w) (step _ _ h1) R ⟨b,q+off,rfl,h2,h3,Pe off h4⟩
 ·cases he
section
variable {o:Oper} {dst:Option Nat}
theorem aB4 {x:Operand} {y:SA} (R:Rel S0 w0 N μ s a w) (hop:o.op = .nilCheck x) (hx:aJ x y=true) (he:aC sp dst (.cB y) s=some (v,s')):Sound P S0 w0 N o s' v a w:=by
 have hev:=R.ev hx
 simp only [aC] at he
 split at he
 ·rename_i hp
  simp only [Option.some.injEq,Prod.mk.injEq] at he
  obtain ⟨rfl,rfl⟩:=he
  have hv : ∃ A,a.eval x = .pointer (some A):=by
   unfold AV.Hw at hp
   split at hp
   ·rename_i n off hy;rw [hy] at hev;exact ⟨_,hev.2⟩
   ·rename_i z hy;rw [hy] at hev;obtain ⟨_,b,q,h,_⟩:=hev;exact ⟨_,h⟩
   ·rename_i cs hy;rw [hy] at hev;obtain ⟨b,q,h,_⟩:=hev;exact ⟨_,h⟩
   ·cases hp
  obtain ⟨A,hA⟩:=hv
  refine bU (y:=a.eval x) (w':=w) ?_ R hev
  simp [execOp,hop,hA]
 ·cases he
theorem aHW {op:BinOp} {t:TypeId} {x y:Operand} {m n:Option Addr} : (eqGuard op t x y (.pointer m) (.pointer n)).run P w = .ok () w:=by
 unfold eqGuard
 split<;>simp
theorem aMH {op:BinOp} {t t' e:TypeId} {x:Operand} {x':SA} {ne:Bool} (R:Rel S0 w0 N μ s a w) (hop:o.op = .binOp op t x (.const (.pointer none)) t') (ht:P.underlying t=some (.pointer e)) (ho:op=if ne then .neq else .eql) (hx:aJ x x'=true) (he:aC sp dst (.gW ne x') s=some (v,s')):Sound P S0 w0 N o s' v a w:=by
 have hev:=R.ev hx
 have hpt:P.underlying t=some (.pointer (P.pointee t)):=by simp [Program.pointee,ht]
 have step : ∀ A:Option Addr,a.eval x = .pointer A->(execOp a.eval o).run P w = .ok (.value (.bool (if ne then !A.isNone else A.isNone))) w:=by
  intro A hA
  have e2:a.eval (Operand.const (Value.pointer none)) = .pointer none:=rfl
  simp only [execOp,hop,hA,e2,Sem.run_bind,aHW,Result.andThen_ok]
  cases ne with
  | true=>simp only [if_true] at ho;subst ho;simp only [run_neq_pointer_nil w t A hpt,Result.andThen_ok,Sem.run_pure,if_true]
  | false=>simp only [Bool.false_eq_true,if_false] at ho;subst ho;simp only [run_eql_pointer_nil w t A hpt,Result.andThen_ok,Sem.run_pure,Bool.false_eq_true,if_false]
 simp only [aC] at he
 split at he
 ·rename_i q hq
  rw [hq] at hev
  split at he
  ·rename_i b hb
   simp only [Option.some.injEq,Prod.mk.injEq] at he
   obtain ⟨rfl,rfl⟩:=he
   have key : ∃ A:Option Addr,a.eval x = .pointer A/\A.isNone=b:=by
    unfold AC.u7 at hb
    split at hb
    ·cases hb;exact ⟨_,hev.2,rfl⟩
    ·cases hb;obtain ⟨_,b',q',h,_⟩:=hev;exact ⟨_,h,rfl⟩
    ·cases hb;obtain ⟨b',q',h,_⟩:=hev;exact ⟨_,h,rfl⟩
    ·cases hb;exact ⟨none,hev.1,rfl⟩
    ·cases hb
   obtain ⟨A,hA,rfl⟩:=key
   exact bU (step A hA) R ⟨rfl,rfl⟩
  ·cases he
 ·cases he
theorem aIZ {op:BinOp} {t t':TypeId} {ms} {x:Operand} {x':SA} {ne:Bool} (R:Rel S0 w0 N μ s a w) (hop:o.op = .binOp op t x (.const .nilIface) t') (ht:P.underlying t=some (.interface ms)) (ho:op=if ne then .neq else .eql) (hx:aJ x x'=true) (he:aC sp dst (.yU ne x') s=some (v,s')):Sound P S0 w0 N o s' v a w:=by
 simp only [aC] at he
 split at he
 ·rename_i hv
  simp only [Option.some.injEq,Prod.mk.injEq] at he
  obtain ⟨rfl,rfl⟩:=he
  have e1:=(R.val hx hv).1
  have e2:a.eval (Operand.const Value.nilIface) = .nilIface:=rfl
  have hg:(eqGuard op t x (.const .nilIface) .nilIface .nilIface).run P w = .ok () w:=by
   unfold eqGuard
   split<;>simp
  have hE:(Op.equal t .nilIface .nilIface).run P w = .ok true w:=by
   have key : ∀ d:Nat,(Op.equalIn (d+1) t .nilIface .nilIface).run P w = .ok true w:=fun d=>by simp [Op.equalIn,run_underlying ht]
   exact key 9999
  refine bU (y:= .bool !ne) (w':=w) ?_ R ⟨rfl,rfl⟩
  simp only [execOp,hop,e1,e2,Sem.run_bind,hg,Result.andThen_ok]
  cases ne with
  | true=>simp only [if_true] at ho;subst ho;simp [binOp,hE]
  | false=>simp only [Bool.false_eq_true,if_false] at ho;subst ho;simp [binOp,hE]
 ·cases he
theorem aA8 {L:aY} : ∀ {aRR:List AP} {qs:List FC} {ys:List Value},tK aRR=some qs->cP L w aRR ys->lP L w qs ys
 | [],qs,ys,hq,h=>by
  simp only [tK,Option.some.injEq] at hq
  subst hq
  cases ys with
  | nil=>trivial
  | cons _ _=>exact h.elim
 | .c c::aRR,qs,ys,hq,h=>by
  simp only [tK] at hq
  split at hq
  ·rename_i q qs' h1 h2
   simp only [Option.some.injEq] at hq
   subst hq
   cases ys with
   | nil=>exact h.elim
   | cons y ys=>
    refine ⟨?_,aA8 h2 h.2⟩
    unfold AC.fc at h1
    split at h1
    ·cases h1;exact h.1
    ·split at h1
     ·rename_i q' hq'
      cases h1
      exact Wx hq' h.1
     ·cases h1
  ·cases hq
 | .g _::aRR,qs,ys,hq,h=>by simp [tK] at hq
theorem G0 {L L':aY} (hS:L'.S=L.S) : ∀ {fs:List FC} {qs:List QC} {ys:List Value},uY fs=some qs->lP L w fs ys->cP L' w (qs.map fun q=> .c q.ac) ys
 | [],qs,ys,hq,h=>by
  simp only [uY,Option.some.injEq] at hq
  subst hq
  cases ys with
  | nil=>trivial
  | cons _ _=>exact h.elim
 | .p _ _::_,qs,ys,hq,h=>by simp [uY] at hq
 | .q c::fs,qs,ys,hq,h=>by
  simp only [uY] at hq
  split at hq
  ·rename_i l hl
   cases hq
   cases ys with
   | nil=>exact h.elim
   | cons y ys=>exact ⟨QC.Qx (L:=L') (c:=c) (by rw [hS];exact h.1),G0 hS hl h.2⟩
  ·cases hq
theorem O2 {L:aY} : ∀ {aRR bs:List AP} {ys zs:List Value},cP L w aRR ys->cP L w bs zs->cP L w (aRR++bs) (ys++zs)
 | [],_,[],_,_,h=>h
 | [],_,_::_,_,hr,_=>hr.elim
 | _::_,_,[],_,hr,_=>hr.elim
 | _::_,_,_::_,_,hr,h=>⟨hr.1,O2 hr.2 h⟩
theorem aRB {fn:Fn} {first caps:Array Operand} {f:Nat} {aRR:List SA} (R:Rel S0 w0 N μ s a w) (hop:o.op = .makeFunc fn first caps) (hf:fn = .func f) (h0:first.toList = []) (hargs:eR caps.toList aRR=true) (he:aC sp dst (.vZ f aRR) s=some (v,s')):Sound P S0 w0 N o s' v a w:=by
 simp only [aC] at he
 split at he
 ·rename_i as' has
  split at he
  ·rename_i qs hqs
   simp only [Option.some.injEq,Prod.mk.injEq] at he
   obtain ⟨rfl,rfl⟩:=he
   have hrep:=Hp R caps.toList aRR hargs has
   have e0:first = #[]:=Array.ext' (by simpa using h0)
   have e:(caps.toList.map a.eval).toArray=caps.map a.eval:=by apply Array.ext';rw [Array.toList_map]
   refine bU (y:= .func (.func f) #[] (caps.map a.eval)) (w':=w) ?_ R ⟨caps.toList.map a.eval,by rw [e],aA8 (L:=own S0 μ s.mem) hqs hrep⟩
   simp [execOp,hop,hf,e0,Instr.makeFunc]
  ·cases he
 ·cases he
theorem aGr {c:Call} {x:Operand} {y:SA} {args:List SA} (hS0:Start S0 w0) (hsp:fA P sp) (R:Rel S0 w0 N μ s a w) (hop:o.op = .call c) (hcal:c.callee = .value x) (hx:aJ x y=true) (hargs:eR c.args.toList args=true) (he:aC sp dst (.dyn y args) s=some (v,s')):Sound P S0 w0 N o s' v a w:=by
 have hev:=R.ev hx
 simp only [aC] at he
 split at he
 ·rename_i f caps aRR hy has
  rw [hy] at hev
  obtain ⟨ys,hfun,hq⟩:=hev
  split at he
  case isFalse=>cases he
  rename_i hf
  split at he
  ·rename_i qs hqs
   split at he
   ·rename_i r hr
    split at he
    case isFalse=>cases he
    rename_i hfree
    simp only [Option.some.injEq,Prod.mk.injEq] at he
    obtain ⟨rfl,rfl⟩:=he
    have hrep:=Hp R c.args.toList args hargs has
    have hres:(execOp a.eval o).run P w=(callFunc f (c.args.toList.map a.eval++ys).toArray).run P w:=by
     have e:(c.args.toList.map a.eval++ys).toArray=c.args.map a.eval++ys.toArray:=by apply Array.ext';simp
     rw [e]
     simp [execOp,hop,resolve,hcal,hfun,Deferred.ofValue,invoke]
    exact aAE hS0 hsp R hres (O2 (Hm (Fg hf hrep)) (G0 (L:=own S0 μ s.mem) (L':=⟨(own S0 μ s.mem).S,fun _=>0,fun _=>False⟩) rfl hqs hq)) hr hfree
   ·cases he
  ·cases he
 ·cases he
theorem aQI {p q el:TypeId} {x:Operand} {y:SA} (hS0:Start S0 w0) (R:Rel S0 w0 N μ s a w) (hop:o.op = .convert p q x) (hp:nH P p=true) (hel:kL P q=some el) (hk:rM P el=some .u8) (hx:aJ x y=true) (he:aC sp dst (.rG y) s=some (v,s')):Sound P S0 w0 N o s' v a w:=by
 simp only [aC] at he
 split at he
 ·rename_i b hb
  simp only [Option.some.injEq,Prod.mk.injEq] at he
  obtain ⟨rfl,rfl⟩:=he
  have hbel:Below w.heap.size w (Lib.bytesWorld w el b):=⟨rfl,rfl,rfl,by rw [Lib.bytesWorld_size];omega,fun k hk=>Lib.bytesWorld_at_old w el b k hk⟩
  refine bU (y:= .slice (some ⟨w.heap.size,0,none⟩) b.size (grownCap w b.size 0 el)) (w':=Lib.bytesWorld w el b) ?_ (R.Tz hbel) ?_
  ·have:=Lib.run_convert_string_bytes (P:=P) w p q el b (Gw hp) (wJ hel) (Mm hk)
   simp only [execOp,hop,(R.val hx hb).1,Sem.run_bind,this,Result.andThen_ok,Sem.run_pure]
  ·refine .inr ⟨w.heap.size,0,grownCap w b.size 0 el,?_,?_,fun h=>absurd ((R.bd hS0 _ h).1) (by omega),by rw [Lib.bytesWorld_size];omega,fun j hj=> ?_⟩
   ·rw [List.length_map];rfl
   ·rw [List.length_map];exact grownCap_ge w b.size 0 el
   ·rw [List.length_map] at hj
    rw [Nat.zero_add,Lib.bytesWorld_cell w el b j hj]
    congr 2
    have hj':j<b.data.toList.length:=hj
    simp [List.getD_eq_getElem?_getD,List.getElem?_map,List.getElem?_eq_getElem hj']
 ·cases he
theorem aOe {t:TypeId} {x i:Operand} {y j:SA} (R:Rel S0 w0 N μ s a w) (hop:o.op = .index t x i) (ht:nH P t=true) (hx:aJ x y=true) (hi:aJ i j=true) (he:aC sp dst (.nJ y j) s=some (v,s')):Sound P S0 w0 N o s' v a w:=by
 simp only [aC] at he
 split at he
 ·rename_i b k q hb hq
  split at he
  ·rename_i hc
   obtain ⟨h0,h1⟩:=hc
   simp only [Option.some.injEq,Prod.mk.injEq] at he
   obtain ⟨rfl,rfl⟩:=he
   refine bU (w':=w) ?_ R ⟨rfl,rfl⟩
   have hlt:q.toNat<b.size:=by
    have:b.size=b.data.toList.length:=rfl
    omega
   have e1:b[q.toNat]? = some (b.data.toList.getD q.toNat 0):=by
    have hlt':q.toNat<b.data.toList.length:=hlt
    rw [List.getD_eq_getElem?_getD,List.getElem?_eq_getElem hlt']
    rw [getElem?_pos b q.toNat hlt]
    rfl
   simp only [execOp,hop,(R.val hx hb).1,(R.val hi hq).1,Instr.index,Sem.run_bind,asIntOf,Sem.run_pure,Result.andThen_ok,run_underlying (Gw ht),h0,if_true,e1]
  ·cases he
 ·cases he
theorem aPz (R:Rel S0 w0 N μ s a w) {lo hi:Option Operand} {lo' hi':Option SA} (hl:jO lo lo'=true) (hh:jO hi hi'=true) {len:Nat} {i j:Int} (hi1:bO s lo' 0=some i) (hj1:bO s hi' len=some j) (h0:0<=i) (h1:i<=j) (h2:j<=len) :
 (Instr.sliceBounds false len len (lo.map a.eval) (hi.map a.eval) none).run P w = .ok (i.toNat,j.toNat,len) w:=by
 have hj':(j.toNat:Int)=j:=by omega
 have bok : ∀ {code:BoundsCode} {k:IntKind} {q:Int} {m:Nat},0<=q->q<=m->(Instr.sliceBound (.int k q) m code).run P w = .ok q.toNat w:=by
  intro code k q m g0 g1
  simp [Instr.sliceBound,asIntOf,g0,g1]
 rcases Px R hl hi1 with ⟨rfl,rfl⟩ | ⟨x1,k1,rfl,e1⟩<;>rcases Px R hh hj1 with ⟨rfl,rfl⟩ | ⟨x2,k2,rfl,e2⟩
 ·simp [Instr.sliceBounds]
 ·simp [Instr.sliceBounds,e2,bok (show (0:Int)<=j by omega) (show j<=(len:Int) by omega)]
 ·simp [Instr.sliceBounds,e1,bok h0 (show i<=(len:Int) by omega)]
 ·simp [Instr.sliceBounds,e1,e2,bok (show (0:Int)<=j by omega) (show j<=(len:Int) by omega),bok h0 (show i<=((j.toNat:Nat):Int) by omega)]
theorem aPV {t:TypeId} {x:Operand} {y:SA} {lo hi:Option Operand} {lo' hi':Option SA} (R:Rel S0 w0 N μ s a w) (hop:o.op = .slice t x lo hi none) (ht:nH P t=true) (hx:aJ x y=true) (hlo:jO lo lo'=true) (hhi:jO hi hi'=true) (he:aC sp dst (.kZ y lo' hi') s=some (v,s')):Sound P S0 w0 N o s' v a w:=by
 simp only [aC] at he
 split at he
 ·rename_i b hb
  split at he
  ·rename_i i j hi1 hj1
   split at he
   ·rename_i hc
    obtain ⟨h0,h1,h2⟩:=hc
    simp only [Option.some.injEq,Prod.mk.injEq] at he
    obtain ⟨rfl,rfl⟩:=he
    have hbo:=aPz (P:=P) (len:=b.size) R hlo hhi hi1 hj1 h0 h1 h2
    refine bU (y:= .string (b.extract i.toNat j.toNat)) (w':=w) ?_ R ⟨?_,rfl⟩
    ·simp only [execOp,hop,Instr.sliceAt,Sem.run_bind,run_underlying (Gw ht),Result.andThen_ok,Instr.slice,(R.val hx hb).1,Option.map_none,Option.isSome_none,Bool.false_eq_true,if_false,Sem.run_pure,hbo]
    ·have e:(b.extract i.toNat j.toNat).data.toList=(b.data.toList.take j.toNat).drop i.toNat:=by
      rw [ByteArray.data_extract,Array.toList_extract,List.extract_eq_take_drop,List.drop_take]
     have e2:b.extract i.toNat j.toNat=⟨((b.data.toList.take j.toNat).drop i.toNat).toArray⟩:=by
      cases hbb:b.extract i.toNat j.toNat with
      | mk d=>
       rw [hbb] at e
       congr 1
       exact Array.ext' (by simpa using e)
     rw [e2]
   ·cases he
  ·cases he
 ·cases he
theorem aHX {op:BinOp} {t t':TypeId} {x y:Operand} {x' y':SA} (R:Rel S0 w0 N μ s a w) (hop:o.op = .binOp op t x y t') (ho:op = .add) (hx:aJ x x'=true) (hy:aJ y y'=true) (he:aC sp dst (.cat x' y') s=some (v,s')):Sound P S0 w0 N o s' v a w:=by
 subst ho
 simp only [aC] at he
 split at he
 ·rename_i p q hp hq
  split at he
  ·rename_i hle
   simp only [Option.some.injEq,Prod.mk.injEq] at he
   obtain ⟨rfl,rfl⟩:=he
   refine bU (y:= .string (p++q)) (w':=w) ?_ R ⟨?_,rfl⟩
   ·have hle' : ¬ ((p.size+q.size:Nat):Int)>IntKind.i64.max:=by
     have e1:p.size=p.data.toList.length:=rfl
     have e2:q.size=q.data.toList.length:=rfl
     rw [e1,e2]
     simp [IntKind.max,IntKind.bits,IntKind.signed]
     omega
    simp only [execOp,hop,(R.val hx hp).1,(R.val hy hq).1,Sem.run_bind,O4,Result.andThen_ok,binOp,Op.stringOp,hle',if_false,Sem.run_pure]
   ·have e:(p++q).data.toList=p.data.toList++q.data.toList:=by rw [ByteArray.data_append,Array.toList_append]
    have e2:p++q=⟨(p.data.toList++q.data.toList).toArray⟩:=by
     cases hpq:p++q with
     | mk d=>
      rw [hpq] at e
      congr 1
      exact Array.ext' (by simpa using e)
    rw [e2]
  ·cases he
 ·cases he
theorem aJl {c:Call} {x:Operand} {y:SA} {t:TypeId} (R:Rel S0 w0 N μ s a w) (hop:o.op = .call c) (hcal:c.callee = .builtin .len) (hargs:c.args = #[x]) (ht:c.argTypes[0]? = some t) (hs:nH P t=true) (hx:aJ x y=true) (he:aC sp dst (.mQ y) s=some (v,s')):Sound P S0 w0 N o s' v a w:=by
 simp only [aC] at he
 split at he
 ·rename_i b hb
  simp only [Option.some.injEq,Prod.mk.injEq] at he
  obtain ⟨rfl,rfl⟩:=he
  refine bU (y:= .int .i64 b.size) (w':=w) ?_ R ⟨rfl,rfl⟩
  simp [execOp,hop,resolve,hcal,hargs,invoke,builtin,Builtin.len_,ht,run_underlying (Gw hs),(R.val hx hb).1,goInt]
 ·cases he
theorem aE8 {t el:TypeId} {x:Operand} {y:SA} {lo hi:Option Operand} {lo' hi':Option SA} {m:Nat} (R:Rel S0 w0 N μ s a w) (hop:o.op = .slice t x lo hi none) (hel:kL P t=some el) (hsz:dH P el=some m) (hx:aJ x y=true) (hlo:jO lo lo'=true) (hhi:jO hi hi'=true) (he:aC sp dst (.yA m y lo' hi') s=some (v,s')):Sound P S0 w0 N o s' v a w:=by
 have hu:=wJ hel
 have hev:=R.ev hx
 simp only [aC] at he
 split at he
 ·rename_i m' cs hl
  rw [hl] at hev
  split at he
  ·rename_i i j hi1 hj1
   split at he
   ·rename_i hc
    obtain ⟨rfl,hm,h0,h1,h2⟩:=hc
    simp only [Option.some.injEq,Prod.mk.injEq] at he
    obtain ⟨rfl,rfl⟩:=he
    rcases hev with ⟨g1,rfl⟩ | ⟨b,o',n,c',g1,g2,g3,g4,g5,g6⟩
    ·have hn:(([]:List QC).length/m':Nat)=0:=by simp
     rw [hn] at hj1 h2
     have hi0:i=0:=by omega
     have hj0:j=0:=by omega
     subst hi0 hj0
     have hb:=Je (P:=P) (cap:=0) (len:=0) R hlo hhi hi1 hj1 h0 h1 h2 (Nat.le_refl _)
     refine bU (y:= .slice none 0 0) (w':=w) ?_ R (.inl ⟨rfl,by simp⟩)
     simp only [execOp,hop,Instr.sliceAt,Sem.run_bind,run_underlying hu,Result.andThen_ok,Instr.slice,g1,Option.map_none,hb,jV hsz]
     simp
    ·have hn:cs.length/m'=n:=by rw [g2,Nat.mul_div_cancel _ hm]
     rw [hn] at hj1 h2
     have hb:=Je (P:=P) (cap:=c') R hlo hhi hi1 hj1 h0 h1 h2 g3
     have hcl:((cs.take (j.toNat*m')).drop (i.toNat*m')).length=(j.toNat-i.toNat)*m':=by
      rw [List.length_drop,List.length_take,g2,Nat.sub_mul,Nat.min_eq_left (Nat.mul_le_mul_right _ (by omega))]
     refine bU (y:= .slice (some (if c'=i.toNat then ⟨b,o',none⟩ else (⟨b,o',none⟩:Addr).add (i.toNat*m'))) (j.toNat-i.toNat) (c'-i.toNat)) (w':=w) ?_ R ?_
     ·simp only [execOp,hop,Instr.sliceAt,Sem.run_bind,run_underlying hu,Result.andThen_ok,Instr.slice,g1,Option.map_none,hb,jV hsz]
      split<;>simp_all
     ·refine .inr ?_
      by_cases hcc:c'=i.toNat
      ·rw [if_pos hcc]
       have e0:j.toNat-i.toNat=0:=by omega
       refine ⟨b,o',j.toNat-i.toNat,c'-i.toNat,rfl,hcl,by omega,g4,g5,fun q c hq=> ?_⟩
       rw [e0,Nat.zero_mul] at hcl
       rw [List.eq_nil_of_length_eq_zero hcl] at hq
       cases hq
      ·rw [if_neg hcc,Addr.add_mid]
       exact ⟨b,o'+i.toNat*m',j.toNat-i.toNat,c'-i.toNat,rfl,hcl,by omega,g4,g5,Pe _ (Z0 _ g6)⟩
   ·cases he
  ·cases he
 ·cases he
theorem aHr {t el:TypeId} {x i:Operand} {y j:SA} {m n:Nat} (R:Rel S0 w0 N μ s a w) (hop:o.op = .indexAddr t x i) (hel:zD P t=some (n,el)) (hsz:dH P el=some m) (hx:aJ x y=true) (hi:aJ i j=true) (he:aC sp dst (.dN m n y j) s=some (v,s')):Sound P S0 w0 N o s' v a w:=by
 have hu:=Pd hel
 have hev:=R.ev hx
 simp only [aC] at he
 split at he
 ·rename_i k off kk q hy hq
  rw [hy] at hev
  split at he
  ·rename_i hc
   obtain ⟨h0,h1⟩:=hc
   simp only [Option.some.injEq,Prod.mk.injEq] at he
   obtain ⟨rfl,rfl⟩:=he
   refine bU (y:= .pointer (some ⟨μ k,off+q.toNat*m,none⟩)) (w':=w) ?_ R ⟨hev.1,rfl⟩
   have hp:a.eval x = .pointer (some ⟨μ k,off,none⟩):=hev.2
   simp only [execOp,hop,hp,(R.val hi hq).1,Instr.indexAt,Sem.run_bind,asIntOf,Sem.run_pure,Result.andThen_ok,run_underlying hu,Instr.sureAddr]
   rw [if_pos ⟨h0,h1⟩]
   simp only [Sem.run_bind,jV hsz,Result.andThen_ok,Sem.run_pure,Addr.add_mid]
  ·cases he
 ·cases he
theorem aHE {t el:TypeId} {x i:Operand} {y j:SA} {n:Nat} (R:Rel S0 w0 N μ s a w) (hop:o.op = .index t x i) (hel:zD P t=some (n,el)) (hsz:dH P el=some 1) (hrow:iV P el=some false) (hx:aJ x y=true) (hi:aJ i j=true) (he:aC sp dst (.Be n y j) s=some (v,s')):Sound P S0 w0 N o s' v a w:=by
 have hu:=Pd hel
 simp only [aC] at he
 split at he
 ·rename_i cs k q hcs hq
  obtain ⟨ys,hy,hr⟩:=R.agg hx hcs
  split at he
  ·rename_i hc
   obtain ⟨h0,h1⟩:=hc
   split at he
   ·rename_i c hcc
    simp only [Option.some.injEq,Prod.mk.injEq] at he
    obtain ⟨rfl,rfl⟩:=he
    obtain ⟨z,hz,hrz⟩:=Ga _ hr hcc
    refine bU (y:=z) (w':=w) ?_ R hrz
    have hz':ys.toArray[q.toNat*1]? = some z:=by simpa using hz
    simp only [execOp,hop,hy,(R.val hi hq).1,Instr.index,Sem.run_bind,asIntOf,Sem.run_pure,Result.andThen_ok,run_underlying hu]
    rw [if_pos ⟨h0,h1⟩]
    simp only [Sem.run_bind,jV hsz,Result.andThen_ok,part,qV hrow,Bool.false_eq_true,if_false,hz',Sem.run_pure]
   ·cases he
  ·cases he
 ·cases he
theorem aCn {t:TypeId} {x:Operand} {y:SA} (R:Rel S0 w0 N μ s a w) (hop:o.op = .unOp .xor t x) (hx:aJ x y=true) (he:aC sp dst (.Ax y) s=some (v,s')):Sound P S0 w0 N o s' v a w:=by
 simp only [aC] at he
 split at he
 ·rename_i k p hp
  simp only [Option.some.injEq,Prod.mk.injEq] at he
  obtain ⟨rfl,rfl⟩:=he
  refine bU (w':=w) ?_ R ⟨rfl,rfl⟩
  simp [execOp,hop,(R.val hx hp).1,Op.unary,Op.intBits,cX]
 ·cases he
end
section
theorem nodup_cons {a:Nat} {aRR:List Nat} (h:nodup (a::aRR)=true):a ∉ aRR/\nodup aRR=true:=by
 simp only [nodup,Bool.and_eq_true,Bool.not_eq_true'] at h
 exact ⟨by simpa using h.1,h.2⟩
theorem Bg : ∀ {ρ : List (Nat×Nat)},nodup (ρ.map (·.1))=true -> ∀ {k n:Nat},cN ρ k=some n↔(k,n) ∈ ρ
 | [],_,k,n=>by simp [cN]
 | (a,b)::r,h,k,n=>by
  obtain ⟨h1,h2⟩:=nodup_cons h
  simp only [cN]
  split
  ·rename_i hk
   subst hk
   constructor
   ·intro e;cases e;exact List.mem_cons_self
   ·intro e
    rcases List.mem_cons.1 e with e | e
    ·cases e;rfl
    ·exact absurd (List.mem_map.2 ⟨(a,n),e,rfl⟩) h1
  ·rename_i hk
   rw [Bg h2]
   constructor
   ·exact fun e=>List.mem_cons_of_mem _ e
   ·intro e
    rcases List.mem_cons.1 e with e | e
    ·cases e;exact absurd rfl hk
    ·exact e
theorem Xv : ∀ {ρ : List (Nat×Nat)} {k n:Nat},(n,k)∈swp ρ ↔ (k,n) ∈ ρ
 | [],k,n=>by simp [swp]
 | (a,b)::r,k,n=>by simp only [swp,List.mem_cons,Prod.mk.injEq,Xv (ρ := r)];constructor<;>rintro (⟨h1,h2⟩ | h)<;>simp_all
theorem U3 : ∀ {ρ : List (Nat×Nat)},(swp ρ).map (·.1) = ρ.map (·.2)
 | []=>rfl
 | (a,b)::r=>by simp [swp,U3 (ρ := r)]
theorem pC {ρ : List (Nat×Nat)} (h1:nodup (ρ.map (·.1))=true) (h2:nodup (ρ.map (·.2))=true) {k n:Nat} : cN (swp ρ) n=some k↔cN ρ k=some n:=by
 rw [Bg h1,Bg (by rw [U3];exact h2),Xv]
theorem xK : ∀ {ks:List Nat} {cs:List AP} {n:Nat},lk ks cs n≠none->n∈ks
 | [],_,_,h=>absurd rfl h
 | k::ks,[],_,h=>absurd rfl h
 | k::ks,c::cs,n,h=>by
  simp only [lk] at h
  split at h
  ·rename_i e;subst e;exact List.mem_cons_self
  ·exact List.mem_cons_of_mem _ (xK h)
theorem Jw {mem:Nat->Option (List AC)} {σ : List (Nat×Nat)} : ∀ {ρ : List (Nat×Nat)} {cs:List AP},nodup (ρ.map (·.1))=true->bG mem σ ρ = some cs->cs.length = ρ.length /\
 (∀ k n,(k,n) ∈ ρ -> ∀ c0,mem n=some c0 -> ∃ x,jI σ c0=some x/\lk (ρ.map (·.1)) cs k=some x)/\(∀ k n,(k,n) ∈ ρ -> mem n=none->lk (ρ.map (·.1)) cs k=none)
 | [],cs,_,h=>by simp only [bG,Option.some.injEq] at h;subst h;exact ⟨rfl,(fun _ _ h=>by cases h),(fun _ _ h=>by cases h)⟩
 | (a,b)::r,cs,hn,h=>by
  obtain ⟨g1,g2⟩:=nodup_cons hn
  have step : ∀ {c:AP} {l:List AP},cs=c::l->bG mem σ r=some l->(∀ c0,mem b=some c0 -> ∃ x,jI σ c0=some x/\c = .g x)->(mem b=none -> ∃ q,c = .c q)->cs.length=r.length+1 /\
   (∀ k n,(k,n)∈(a,b)::r -> ∀ c0,mem n=some c0 -> ∃ x,jI σ c0=some x/\lk (((a,b)::r).map (·.1)) cs k=some x)/\(∀ k n,(k,n)∈(a,b)::r->mem n=none->lk (((a,b)::r).map (·.1)) cs k=none):=by
   intro c l e hl hs hno
   subst e
   obtain ⟨q1,q2,q3⟩:=Jw g2 hl
   have hne : ∀ k n,(k,n)∈r -> ¬ a=k:=fun k n h e=>g1 (by subst e;exact List.mem_map.2 ⟨(a,n),h,rfl⟩)
   refine ⟨by simp [q1],fun k n h c0 h0=> ?_,fun k n h h0=> ?_⟩
   ·rcases List.mem_cons.1 h with e | e
    ·cases e
     obtain ⟨x,x1,rfl⟩:=hs c0 h0
     exact ⟨x,x1,by simp [lk]⟩
    ·obtain ⟨x,x1,x2⟩:=q2 k n e c0 h0
     exact ⟨x,x1,by simp only [List.map_cons,lk];rw [if_neg (hne k n e)];exact x2⟩
   ·rcases List.mem_cons.1 h with e | e
    ·cases e
     obtain ⟨q,rfl⟩:=hno h0
     simp [lk]
    ·have x2:=q3 k n e h0
     simp only [List.map_cons,lk];rw [if_neg (hne k n e)];exact x2
  simp only [bG] at h
  split at h
  ·rename_i c0 l h0 hl
   split at h
   ·rename_i x hx
    cases h
    exact step rfl hl (fun c1 h1=>by rw [h0] at h1;cases h1;exact ⟨x,hx,rfl⟩) (fun h1=>by rw [h0] at h1;cases h1)
   ·cases h
  ·rename_i l h0 hl
   cases h
   exact step rfl hl (fun c1 h1=>by rw [h0] at h1;cases h1) (fun _=>⟨_,rfl⟩)
  ·cases h
theorem aAX {mem:Nat->Option (List AC)} : ∀ {ρ : List (Nat×Nat)} {os:List AP},nodup (ρ.map (·.1))=true->lY mem ρ os=true -> ∀ k n,(k,n) ∈ ρ -> mem n=none->n<1000∨lk (ρ.map (·.1)) os k=none
 | [],_,_,_=>fun k n h=>by cases h
 | (a,b)::r,[],_,_=>fun k n h h0=> .inr rfl
 | (a,b)::r,c::os,hn,h=>fun k n hm h0=>by
  obtain ⟨g1,g2⟩:=nodup_cons hn
  simp only [lY,Bool.and_eq_true] at h
  rcases List.mem_cons.1 hm with e | e
  ·cases e
   cases c with
   | c q=>exact .inr (by simp [lk])
   | g x=>
    have h1:=h.1
    simp only [h0,Option.isSome_none,Bool.or_false,decide_eq_true_eq] at h1
    exact .inl h1
  ·have hne : ¬ a=k:=fun e'=>g1 (by subst e';exact List.mem_map.2 ⟨(a,n),e,rfl⟩)
   rcases aAX g2 h.2 k n e h0 with h1 | h1
   ·exact .inl h1
   ·exact .inr (by simp only [List.map_cons,lk];rw [if_neg hne];exact h1)
theorem Od {σ : List (Nat×Nat)} : ∀ {ks:List Nat} {cs cs':List AP},eL σ cs=some cs' -> ∀ n,(∀ x,lk ks cs n=some x -> ∃ x',jI σ x=some x'/\lk ks cs' n=some x')/\(lk ks cs n=none->lk ks cs' n=none)
 | [],_,_,_,n=>⟨fun _ h=>by simp [lk] at h,fun _=>rfl⟩
 | k::ks,[],cs',h,n=>by simp only [eL,Option.some.injEq] at h;subst h;exact ⟨fun _ h=>by simp [lk] at h,fun _=>rfl⟩
 | k::ks,c::cs,cs',h,n=>by
  simp only [eL] at h
  split at h
  ·rename_i b bs hb hbs
   cases h
   simp only [lk]
   split
   ·cases c with
    | g x=>
     simp only [AP.gH] at hb
     split at hb
     ·rename_i y hy
      cases hb
      exact ⟨fun z hz=>by cases hz;exact ⟨y,hy,rfl⟩,fun h=>by cases h⟩
     ·cases hb
    | c q=>
     simp only [AP.gH] at hb
     split at hb
     ·cases hb;exact ⟨(fun z hz=>by cases hz),fun _=>rfl⟩
     ·cases hb
   ·exact Od hbs n
  ·cases h
theorem Zh : ∀ {ρ : List (Nat×Nat)} {cs:List AP} {m:Nat->Option (List AC)},nodup (ρ.map (·.1))=true->nodup (ρ.map (·.2))=true->cs.length = ρ.length -> ∀ {k n:Nat},(k,n) ∈ ρ -> iL ρ cs m n=lk (ρ.map (·.1)) cs k
 | [],_,_,_,_,_,_,_,h=>by cases h
 | (a,b)::r,[],_,_,_,hl,_,_,_=>by simp at hl
 | (a,b)::r,c::cs,m,h1,h2,hl,k,n,h=>by
  obtain ⟨g1,g2⟩:=nodup_cons h1
  obtain ⟨g3,g4⟩:=nodup_cons h2
  simp only [iL,List.map_cons,lk]
  rcases List.mem_cons.1 h with e | e
  ·cases e;rw [lZ,if_pos rfl]
  ·rw [eK _ _ (fun e'=>g3 (by subst e';exact List.mem_map.2 ⟨(k,n),e,rfl⟩)),if_neg (fun e'=>g1 (by subst e';exact List.mem_map.2 ⟨(a,n),e,rfl⟩))]
   exact Zh g2 g4 (by simpa using hl) e
structure uF (σ : List (Nat×Nat)) (L L':aY):Prop where
 D : ∀ n m,cN σ n=some m->L.D n->L'.D m/\L'.μ m=L.μ n
 S : ∀ b,L'.S b->L.S b
theorem uF.e {σ : List (Nat×Nat)} {L L':aY} {w:World} (h:uF σ L L'):Ext ⟨L.S,L.μ,fun _=>False⟩ w ⟨L'.S,L'.μ,fun _=>False⟩ w:=
 ⟨fun n h=>h.elim,fun b hb _=>⟨rfl,fun h'=>hb (h.S b h')⟩,Nat.le_refl _,fun n h=>h.elim⟩
theorem AC.Jh {σ : List (Nat×Nat)} {L L':aY} {w:World} (h:uF σ L L') {c c':AC} {y:Value} (hc:c.gH σ = some c') (hr:c.rep L w y):c'.rep L' w y:=by
 cases c with
 | p n off=>
  simp only [AC.gH] at hc
  split at hc
  ·rename_i m hm
   cases hc
   obtain ⟨h1,h2⟩:=hr
   obtain ⟨g1,g2⟩:=h.D n m hm h1
   exact ⟨g1,by rw [g2];exact h2⟩
  ·cases hc
 | s t n len=>cases hc
 | v x=>cases hc;exact hr
 | k x=>cases hc;exact AC.dU (a:= .k x) h.e hr
 | r e l=>cases hc;exact AC.dU (a:= .r e l) h.e hr
 | q m cs=>cases hc;exact AC.dU (a:= .q m cs) h.e hr
 | kq cs=>cases hc;exact AC.dU (a:= .kq cs) h.e hr
 | nil e=>cases hc;exact hr
 | fn f caps=>
  simp only [AC.gH] at hc
  split at hc
  ·rename_i hq
   cases hc
   obtain ⟨ys,h1,h2⟩:=hr
   have h3:lP (⟨L.S,L.μ,fun _=>False⟩:aY) w caps ys:=Ns (L:=L) (L':=⟨L.S,L.μ,fun _=>False⟩) rfl hq h2
   have h4:=Ot (h.e (w:=w)) h3
   exact ⟨ys,h1,Ns (L:=⟨L'.S,L'.μ,fun _=>False⟩) (L':=L') rfl hq h4⟩
  ·cases hc
 | ik k=>cases hc;exact hr
 | u=>cases hc;exact hr
theorem Lc {σ : List (Nat×Nat)} {L L':aY} {w:World} (h:uF σ L L') : ∀ {cs cs':List AC} {ys:List Value},jI σ cs=some cs'->bE L w cs ys->bE L' w cs' ys
 | [],cs',ys,hc,hr=>by simp only [jI,Option.some.injEq] at hc;subst hc;cases ys with | nil=>trivial | cons _ _=>exact hr.elim
 | c::cs,cs',[],hc,hr=>hr.elim
 | c::cs,cs',y::ys,hc,hr=>by
  simp only [jI] at hc
  split at hc
  ·rename_i b bs hb hbs
   cases hc
   exact ⟨AC.Jh h hb hr.1,Lc h hbs hr.2⟩
  ·cases hc
theorem AP.Jh {σ : List (Nat×Nat)} {L L':aY} {w:World} (h:uF σ L L') {c c':AP} {y:Value} (hc:c.gH σ = some c') (hr:c.rep L w y):c'.rep L' w y:=by
 cases c with
 | c a=>
  simp only [AP.gH] at hc
  split at hc
  ·rename_i b hb
   cases hc
   exact AC.Jh (c:=a) h hb hr
  ·cases hc
 | g cs=>
  simp only [AP.gH] at hc
  split at hc
  ·rename_i b hb
   cases hc
   obtain ⟨ys,h1,h2⟩:=hr
   exact ⟨ys,h1,Lc h hb h2⟩
  ·cases hc
theorem Nq {σ : List (Nat×Nat)} {L L':aY} {w:World} (h:uF σ L L') : ∀ {cs cs':List AP} {ys:List Value},eL σ cs=some cs'->cP L w cs ys->cP L' w cs' ys
 | [],cs',ys,hc,hr=>by simp only [eL,Option.some.injEq] at hc;subst hc;cases ys with | nil=>trivial | cons _ _=>exact hr.elim
 | c::cs,cs',[],hc,hr=>hr.elim
 | c::cs,cs',y::ys,hc,hr=>by
  simp only [eL] at hc
  split at hc
  ·rename_i b bs hb hbs
   cases hc
   exact ⟨AP.Jh h hb hr.1,Nq h hbs hr.2⟩
  ·cases hc
theorem aLV {L:aY} {w:World} : ∀ {l:List AP} {us:List Value},cP L w l us->(mP l).rep L w (if h:us.toArray.size=1 then us.toArray[0] else .tuple us.toArray)
 | [],[],_=>⟨[],by simp,trivial⟩
 | [x],[y],h=>h.1
 | [x],[],h=>h.elim
 | [x],_::_::_,h=>h.2.elim
 | x::x'::l,[],h=>h.elim
 | x::x'::l,[y],h=>h.2.elim
 | x::x'::l,y::y'::us,h=>⟨y::y'::us,by simp,h⟩
 | [],_::_,h=>h.elim
theorem aPi {σ : List (Nat×Nat)} {L L':aY} {w:World} (h:uF σ L L') {l l':List AP} {y:Value} (hl:eL σ l=some l') (hr:(mP l).rep L w y):(mP l').rep L' w y:=by
 match l,hl,hr with
 | [],hl,hr=>
  simp only [eL,Option.some.injEq] at hl
  subst hl
  obtain ⟨ys,h1,h2⟩:=hr
  cases ys with
  | nil=>exact ⟨[],h1,trivial⟩
  | cons _ _=>exact h2.elim
 | [x],hl,hr=>
  simp only [eL] at hl
  split at hl
  ·rename_i b bs hb hbs
   cases hbs
   cases hl
   exact AP.Jh (c:=x) h hb hr
  ·cases hl
 | x::x'::l,hl,hr=>
  obtain ⟨ys,h1,h2⟩:=hr
  have h3:=Nq h hl h2
  simp only [eL] at hl
  split at hl
  ·rename_i b bs hb hbs
   cases hl
   split at hbs
   ·cases hbs
    exact ⟨ys,h1,h3⟩
   ·cases hbs
  ·cases hl
end
section
variable {o:Oper} {dst:Option Nat}
def tD (ρ : List (Nat×Nat)) (μ : Nat->Nat) (k:Nat):Nat:=match cN ρ k with | some n=> μ n | none=>0
theorem Kn {ρ : List (Nat×Nat)} {cs:List AP} (R:Rel S0 w0 N μ s a w) (hn1:nodup (ρ.map (·.1))=true) (hcs:bG s.mem (swp ρ) ρ = some cs) {k:Nat} (h:lk (ρ.map (·.1)) cs k≠none) :
 ∃ n c0 x,cN ρ k=some n/\s.mem n=some c0/\jI (swp ρ) c0=some x/\lk (ρ.map (·.1)) cs k=some x:=by
 obtain ⟨c1,c2,c3⟩:=Jw hn1 hcs
 obtain ⟨⟨k',n⟩,hmem,rfl⟩:=List.mem_map.1 (xK h)
 cases hm:s.mem n with
 | none=>exact absurd (c3 _ _ hmem hm) h
 | some c0=>
  obtain ⟨x,x1,x2⟩:=c2 _ _ hmem c0 hm
  exact ⟨n,c0,x,(Bg hn1).2 hmem,hm,x1,x2⟩
theorem aAb {ρ : List (Nat×Nat)} {cs:List AP} (R:Rel S0 w0 N μ s a w) (hn1:nodup (ρ.map (·.1))=true) (hn2:nodup (ρ.map (·.2))=true) (hcs:bG s.mem (swp ρ) ρ = some cs) :
 uF (swp ρ) (own S0 μ s.mem) (own (cx (own S0 μ s.mem).S) (tD ρ μ) (lk (ρ.map (·.1)) cs)):=by
 obtain ⟨c1,c2,c3⟩:=Jw hn1 hcs
 refine ⟨fun n k h hD=> ?_,fun b hb=> ?_⟩
 ·have hk:=(pC hn1 hn2).1 h
  refine ⟨?_,by show tD ρ μ k = μ n;unfold tD;rw [hk]⟩
  show lk _ cs k≠none
  cases hm:s.mem n with
  | none=>exact absurd hm hD
  | some c0=>
   obtain ⟨x,_,x2⟩:=c2 k n ((Bg hn1).1 hk) c0 hm
   rw [x2];simp
 ·rcases hb with hb | ⟨k,hk,hb⟩
  ·exact hb
  ·obtain ⟨n,c0,x,g1,g2,_⟩:=Kn R hn1 hcs hk
   have:tD ρ μ k = μ n:=by unfold tD;rw [g1]
   exact .inr ⟨n,by rw [g2];simp,by rw [← this];exact hb⟩
theorem aGs {f:Nat} {ρ : List (Nat×Nat)} {vs:List Value} {cs aRR outs outs' l l':List AP} (hS0:Start S0 w0) (R:Rel S0 w0 N μ s a w) (hn1:nodup (ρ.map (·.1))=true) (hn2:nodup (ρ.map (·.2))=true)
 (hres:(execOp a.eval o).run P w=(callFunc f vs.toArray).run P w) (hent:Enters P f) (hcs:bG s.mem (swp ρ) ρ = some cs) (hol:outs.length=(ρ.map (·.1)).length) (houts:eL ρ outs=some outs') (hl:eL ρ l=some l')
 (hrep:cP (own (cx (own S0 μ s.mem).S) (tD ρ μ) (lk (ρ.map (·.1)) cs)) w aRR vs) (hm:wM P f aRR cs (ρ.map (·.1)) outs l) (hab:lY s.mem ρ outs=true) :
 Sound P S0 w0 N o { s with mem:=iL ρ outs' s.mem } (mP l') a w:=by
 intro K Q hK
 unfold Oper.wp
 rw [hres,hent]
 have hren:=aAb R hn1 hn2 hcs
 have hol':outs'.length = ρ.length:=by
  have : ∀ {l l':List AP},eL ρ l=some l'->l'.length=l.length:=by
   intro l
   induction l with
   | nil=>intro l' h;simp only [eL,Option.some.injEq] at h;subst h;rfl
   | cons c l ih=>
    intro l' h
    simp only [eL] at h
    split at h
    ·rename_i b bs hb hbs;cases h;simp [ih hbs]
    ·cases h
  rw [this houts,hol,List.length_map]
 have hmu : ∀ {k n:Nat},cN ρ k=some n->tD ρ μ k = μ n:=fun h=>by unfold tD;rw [h]
 refine (hm (own S0 μ s.mem).S w vs (tD ρ μ) (R.bd hS0) (hS0.Qf R.below) (fun k x hx=> ?_) (fun k m hk hm' hkm=> ?_) hrep).mono ?_
 ·obtain ⟨n,c0,x',g1,g2,g3,g4⟩:=Kn R hn1 hcs (k:=k) (by rw [hx];simp)
  rw [hx] at g4
  cases g4
  obtain ⟨h1,ys,zs,T,h2,h3⟩:=R.mem n c0 g2
  rw [hmu g1]
  exact ⟨(R.bd hS0 (μ n) (.inr ⟨n,by rw [g2];simp,rfl⟩)).2,ys,zs,T,h2,Lc hren g3 h3⟩
 ·obtain ⟨n,c0,x',g1,g2,_⟩:=Kn R hn1 hcs hk
  obtain ⟨n',c0',x'',g1',g2',_⟩:=Kn R hn1 hcs hm'
  rw [hmu g1,hmu g1'] at hkm
  have:=R.inj n n' (by rw [g2];simp) (by rw [g2'];simp) hkm
  subst this
  have h1:=(pC hn1 hn2).2 g1
  have h2:=(pC hn1 hn2).2 g1'
  rw [h1] at h2
  cases h2;rfl
 rintro e w' ⟨v,μ',rfl,hkeep,hnew,hheld,hinj,hv,hf⟩
 let μ2:Nat->Nat:=fun n=>match cN (swp ρ) n with | some k=> μ' k | none=> μ n
 have m2some : ∀ {n k:Nat},cN (swp ρ) n=some k -> μ2 n = μ' k:=fun h=>by show (match cN (swp ρ) _ with | some k=> μ' k | none=> μ _)=_;rw [h]
 have m2none : ∀ {n:Nat},cN (swp ρ) n=none -> μ2 n = μ n:=fun h=>by show (match cN (swp ρ) _ with | some k=> μ' k | none=> μ _)=_;rw [h]
 have inρ : ∀ {n k:Nat},cN (swp ρ) n=some k->(k,n) ∈ ρ := fun h=>(Bg hn1).1 ((pC hn1 hn2).1 h)
 have p2some : ∀ {n k:Nat},cN (swp ρ) n=some k->iL ρ outs' s.mem n=lk (ρ.map (·.1)) outs' k:=fun h=>Zh hn1 hn2 hol' (inρ h)
 have p2none : ∀ {n:Nat},cN (swp ρ) n=none->iL ρ outs' s.mem n=s.mem n:=fun {n} h=>Vw (fun hmem=>by
  obtain ⟨⟨k,n'⟩,h1,rfl⟩:=List.mem_map.1 hmem
  have:=(pC hn1 hn2).2 ((Bg hn1).2 h1)
  rw [h] at this;cases this)
 obtain ⟨c1,c2,c3⟩:=Jw hn1 hcs
 have lkc : ∀ {n k:Nat},cN (swp ρ) n=some k->s.mem n≠none->lk (ρ.map (·.1)) cs k≠none:=fun {n k} h hn=>by
  cases hm0:s.mem n with
  | none=>exact absurd hm0 hn
  | some c0=>obtain ⟨x,_,x2⟩:=c2 k n (inρ h) c0 hm0;rw [x2];simp
 have lkn : ∀ {n k:Nat},cN (swp ρ) n=some k->s.mem n=none->lk (ρ.map (·.1)) cs k=none:=fun {n k} h hn=>c3 k n (inρ h) hn
 have o2 : ∀ {k:Nat},lk (ρ.map (·.1)) outs' k≠none->lk (ρ.map (·.1)) outs k≠none:=fun {k} h hn=>h ((Od houts k).2 hn)
 have o1 : ∀ {k:Nat},lk (ρ.map (·.1)) outs k≠none->lk (ρ.map (·.1)) outs' k≠none:=fun {k} h=>by
  cases hx:lk (ρ.map (·.1)) outs k with
  | none=>exact absurd hx h
  | some x=>obtain ⟨x',_,h2⟩:=(Od houts k).1 x hx;rw [h2];simp
 have hmem : ∀ n,s.mem n≠none->iL ρ outs' s.mem n≠none /\ μ2 n = μ n:=fun n hn=>by
  cases hk:cN (swp ρ) n with
  | none=>exact ⟨by rw [p2none hk];exact hn,m2none hk⟩
  | some k=>
   obtain ⟨h1,h2⟩:=hkeep k (lkc hk hn)
   exact ⟨by rw [p2some hk];exact o1 h1,by rw [m2some hk,h2,hmu ((pC hn1 hn2).1 hk)]⟩
 have hX : ∀ b,(∃ k,lk (ρ.map (·.1)) cs k≠none/\tD ρ μ k=b) -> ∃ n k,s.mem n≠none /\ μ n=b/\cN (swp ρ) n=some k:=by
  rintro b ⟨k,hk,rfl⟩
  obtain ⟨n,c0,x,g1,g2,_⟩:=Kn R hn1 hcs hk
  exact ⟨n,k,by rw [g2];simp,(hmu g1).symm,(pC hn1 hn2).2 g1⟩
 have hS2 : ∀ b,(own S0 μ2 (iL ρ outs' s.mem)).S b->(own (cx (own S0 μ s.mem).S) μ' (lk (ρ.map (·.1)) outs)).S b:=by
  rintro b (h | ⟨n,hn,h⟩)
  ·exact .inl (.inl h)
  ·cases hk:cN (swp ρ) n with
   | none=>rw [p2none hk] at hn;rw [m2none hk] at h;exact .inl (.inr ⟨n,hn,h⟩)
   | some k=>rw [p2some hk] at hn;rw [m2some hk] at h;exact .inr ⟨k,o2 hn,h⟩
 have hren2:uF ρ (own (cx (own S0 μ s.mem).S) μ' (lk (ρ.map (·.1)) outs)) (own S0 μ2 (iL ρ outs' s.mem)):=by
  refine ⟨fun k n h hD=> ?_,hS2⟩
  have hk:=(pC hn1 hn2).2 h
  exact ⟨by show iL ρ outs' s.mem n≠none;rw [p2some hk];exact o1 hD,m2some hk⟩
 have hx:Ext (own S0 μ s.mem) w (own S0 μ2 (iL ρ outs' s.mem)) w':=by
  refine ⟨fun n hn=>hmem n hn,fun b hb hlt=>⟨hf.block b hlt (fun hx=> ?_),fun h=> ?_⟩,hf.size,fun n hn=>hf.mJ _ (R.lt n hn)⟩
  ·obtain ⟨n,_,g1,g2,_⟩:=hX b hx
   exact hb (.inr ⟨n,g1,g2⟩)
  ·rcases hS2 b h with h | ⟨k,hk,rfl⟩
   ·exact hb h
   ·by_cases hc:lk (ρ.map (·.1)) cs k=none
    ·exact absurd (hnew k hk hc) (by omega)
    ·rw [(hkeep k hc).2] at hb
     obtain ⟨n,_,g1,g2,_⟩:=hX _ ⟨k,hc,rfl⟩
     exact hb (.inr ⟨n,g1,g2⟩)
 have R2:Rel S0 w0 N μ2 { s with mem:=iL ρ outs' s.mem } a w':=by
  refine R.move hx (fun n c2' hn=> ?_) (fun i j hi hj hij=> ?_) ⟨hf.os.trans R.below.os,hf.tape.trans R.below.tape,hf.output.trans R.below.output,Nat.le_trans R.below.size hf.size,fun k hk hxk=> ?_,fun k hk=>(hf.mJ k (Nat.lt_of_lt_of_le hk R.below.size)).trans (R.below.mJ k hk)⟩ (fun n b hb hn=> ?_)
  ·cases hk:cN (swp ρ) n with
   | none=>
    rw [p2none hk] at hn
    rw [m2none hk]
    obtain ⟨h1,ys,zs,T,h2,h3⟩:=R.mem n c2' hn
    have hnn:s.mem n≠none:=by rw [hn];simp
    refine ⟨h1,ys,zs,T,(hf.block _ (R.lt n hnn) (fun hx'=> ?_)).trans h2,nB hx h3⟩
    obtain ⟨n',k',g1,g2,g3⟩:=hX _ hx'
    have:=R.inj n' n g1 hnn g2
    subst this
    rw [hk] at g3;cases g3
   | some k=>
    rw [p2some hk] at hn
    rw [m2some hk]
    have hok:=o2 (k:=k) (by rw [hn];simp)
    cases hx0:lk (ρ.map (·.1)) outs k with
    | none=>exact absurd hx0 hok
    | some x=>
     obtain ⟨x',h1,h2⟩:=(Od houts k).1 x hx0
     rw [hn] at h2
     cases h2
     obtain ⟨ys,zs,T,g1,g2⟩:=hheld k x hx0
     refine ⟨?_,ys,zs,T,g1,Lc hren2 h1 g2⟩
     cases hm0:s.mem n with
     | none=>exact .inl (Nat.le_trans R.below.size (hnew k hok (lkn hk hm0)))
     | some c0=>
      have hnn:s.mem n≠none:=by rw [hm0];simp
      have:=(hmem n hnn).2
      rw [m2some hk] at this
      rw [this]
      exact (R.mem n c0 hm0).1
  ·have key : ∀ {i j:Nat},iL ρ outs' s.mem i≠none->iL ρ outs' s.mem j≠none -> μ2 i = μ2 j->cN (swp ρ) i=none->i=j:=by
    intro i j hi hj hij hki
    rw [p2none hki] at hi
    rw [m2none hki] at hij
    cases hkj:cN (swp ρ) j with
    | none=>rw [p2none hkj] at hj;rw [m2none hkj] at hij;exact R.inj i j hi hj hij
    | some k=>
     rw [p2some hkj] at hj
     by_cases hm0:s.mem j=none
     ·have h1:=hnew k (o2 hj) (lkn hkj hm0)
      rw [m2some hkj] at hij
      have:=R.lt i hi
      omega
     ·rw [(hmem j hm0).2] at hij
      exact R.inj i j hi hm0 hij
   cases hki:cN (swp ρ) i with
   | none=>exact key hi hj hij hki
   | some k=>
    cases hkj:cN (swp ρ) j with
    | none=>exact (key hj hi hij.symm hkj).symm
    | some k'=>
     have hi':=hi
     have hj':=hj
     rw [p2some hki] at hi'
     rw [p2some hkj] at hj'
     rw [m2some hki,m2some hkj] at hij
     have:=hinj k k' (o2 hi') (o2 hj') hij
     subst this
     have h1:=(pC hn1 hn2).1 hki
     have h2:=(pC hn1 hn2).1 hkj
     rw [h1] at h2
     cases h2;rfl
  ·refine (hf.block k (Nat.lt_of_lt_of_le hk R.below.size) (fun hx'=> ?_)).trans (R.below.block k hk hxk)
   obtain ⟨n,_,g1,g2,_⟩:=hX _ hx'
   rcases R.Ve n g1 with h | h
   ·omega
   ·rw [g2] at h;exact hxk h
  ·cases hk:cN (swp ρ) n with
   | none=>rw [p2none hk] at hn;rw [m2none hk];exact R.kS n b hb hn
   | some k=>
    by_cases hm0:s.mem n=none
    ·rcases aAX hn1 hab k n (inρ hk) hm0 with h1 | h1
     ·have:=S0.io n h1
      rw [this] at hb;cases hb
     ·rw [p2some hk] at hn
      exact absurd h1 (o2 hn)
    ·rw [(hmem n hm0).2];exact R.kS n b hb hm0
 exact hK μ2 v w' R2 (aPi hren2 hl hv)
end
section
variable {o:Oper} {dst:Option Nat}
theorem aPj {c:Call} {f:Nat} {args:List SA} {ρ : List (Nat×Nat)} (hS0:Start S0 w0) (hsp:fA P sp) (R:Rel S0 w0 N μ s a w) (hop:o.op = .call c) (hcal:c.callee = .value (.func f)) (hargs:eR c.args.toList args=true) (hn1:nodup (ρ.map (·.1))=true) (hn2:nodup (ρ.map (·.2))=true) (he:aC sp dst (.aM f args ρ) s=some (v,s')):Sound P S0 w0 N o s' v a w:=by
 simp only [aC] at he
 split at he
 ·rename_i aRR has
  split at he
  ·rename_i as' cs has' hcs
   split at he
   ·rename_i ns outs l hr
    split at he
    ·rename_i hc
     obtain ⟨rfl,hol,hab⟩:=hc
     split at he
     ·rename_i outs' l' houts hl
      simp only [Option.some.injEq,Prod.mk.injEq] at he
      obtain ⟨rfl,rfl⟩:=he
      obtain ⟨c1,c2,c3⟩:=Jw hn1 hcs
      have hrep:=Hp R c.args.toList args hargs has
      have hres:(execOp a.eval o).run P w=(callFunc f (c.args.toList.map a.eval).toArray).run P w:=by
       have e:(c.args.toList.map a.eval).toArray=c.args.map a.eval:=by apply Array.ext';rw [Array.toList_map]
       rw [e]
       simp [execOp,hop,resolve,hcal,Act.eval,Deferred.ofValue,invoke]
      rcases hsp f _ _ hr with ⟨_,h0,_⟩ | ⟨h0,_⟩ | ⟨_,t,d,hh,_⟩ | ⟨hent,args1,conts1,ns1,outs1,l1,e1,e2,e3,hm⟩
      ·cases h0
      ·cases h0
      ·cases hh
      ·cases e3
       obtain ⟨rfl,rfl⟩:as'.map AP.wk=args1/\cs=conts1:=by
        have hl2:(as'.map AP.wk).length=args1.length:=by
         have:=congrArg List.length e1
         simp only [List.length_append] at this
         simp only [List.length_map] at e2 this ⊢
         omega
        exact List.append_inj e1 hl2
       exact aGs hS0 R hn1 hn2 hres hent hcs hol houts hl (Hm (Nq (aAb R hn1 hn2 hcs) has' hrep)) hm hab
     ·cases he
    ·cases he
   ·cases he
  ·cases he
 ·cases he
end
theorem aHw {o:Oper} {so:bA} (hS0:Start S0 w0) {d:Option Nat} (hdn : ∀ n,d=some n->S0.st n=none) (hsp:fA P sp) (R:Rel S0 w0 N μ s a w) (hc:qO P o.op so=true) (he:aC sp d so s=some (v,s')):Sound P S0 w0 N o s' v a w:=by
 cases hop:o.op<;>cases so<;>rw [hop] at hc<;>simp only [qO,Bool.and_eq_true,beq_iff_eq,decide_eq_true_eq,Bool.false_eq_true] at hc
 case move.mv x y=>exact aBf R (.inl hop) hc he
 case assign.mv x y=>exact aBf R (.inr hop) hc he
 case pick.pick=>exact aGO R hop hc.1.1 hc.1.2 hc.2 he
 case alloc.alloc=>exact aPv hS0 hdn R hop hc he
 case box.box=>exact aGM hS0 hdn R hop hc he
 case build.build=>
  obtain ⟨h1,h2⟩:=hc
  rcases (Bool.or_eq_true _ _).mp h2 with h | h
  ·simp only [Bool.and_eq_true] at h
   exact aJf R hop h1 h.2 h.1 he
  ·exact aEC R hop h1 h he
 case indexAddr.aI=>exact aGL R hop hc.1 hc.2 he
 case load.load=>exact aF0 R hop hc.1.1.1 hc.1.1.2 (by simpa using hc.1.2) hc.2 he
 case store.store=>exact aEc R hop hc.1.1 hc.1.2 hc.2 he
 case fieldAddr.aI=>exact aII R hop hc.1 hc.2 he
 case field.part=>exact aHi R hop hc.1 hc.2 he
 case binOp.bin=>obtain ⟨⟨rfl,h1⟩,h2⟩:=hc;exact aRI R hop h1 h2 he
 case binOp.qD=>exact aKA R hop hc.1.1.1 hc.1.1.2 hc.1.2 hc.2 he
 case binOp.eqs=>exact aPE R hop hc.1.1.1.1.1 hc.1.1.1.1.2 (by simpa using hc.1.1.1.2) hc.1.1.2 hc.1.2 hc.2 he
 case unOp.not op _ _ _=>
  cases op<;>simp only [qO,Bool.false_eq_true] at hc
  exact aHm R hop hc he
 case unOp.neg op _ _ _=>
  cases op<;>simp only [qO,Bool.false_eq_true] at hc
  exact aOB R hop hc he
 case convert.cH=>exact aH7 R hop hc.1.1 hc.1.2 hc.2 he
 case extract.ext=>obtain ⟨rfl,h1⟩:=hc;exact aJy R hop h1 he
 case nilCheck.cB=>exact aB4 R hop hc he
 case binOp.gW=>
  obtain ⟨⟨⟨h1,h2⟩,h3⟩,h4⟩:=hc
  split at h1
  ·rename_i e hu
   split at h4
   ·exact aMH R hop hu h2 h3 he
   ·cases h4
  ·cases h1
 case binOp.yU=>
  obtain ⟨⟨⟨h1,h2⟩,h3⟩,h4⟩:=hc
  split at h1
  ·rename_i ms hu
   split at h4
   ·exact aIZ R hop hu h2 h3 he
   ·cases h4
  ·cases h1
 case makeFunc.vZ=>
  obtain ⟨⟨h1,h2⟩,h3⟩:=hc
  split at h1
  ·rename_i g
   simp only [beq_iff_eq] at h1
   subst h1
   exact aRB R hop rfl (by simpa using h2) h3 he
  ·cases h1
 case call.dyn=>
  obtain ⟨h1,h2⟩:=hc
  split at h1
  ·rename_i y hy
   exact aGr hS0 hsp R hop hy h1 h2 he
  ·cases h1
 case convert.rG=>
  obtain ⟨⟨h1,h2⟩,h3⟩:=hc
  split at h2
  ·rename_i el hel
   exact aQI hS0 R hop h1 hel (by simpa using h2) h3 he
  ·cases h2
 case index.nJ=>exact aOe R hop hc.1.1 hc.1.2 hc.2 he
 case binOp.cat=>exact aHX R hop hc.1.1.2 hc.1.2 hc.2 he
 case unOp.Ax op _ _ _=>
  cases op<;>simp only [qO,Bool.false_eq_true] at hc
  exact aCn R hop hc he
 case call.mQ c y=>
  obtain ⟨h1,h2⟩:=hc
  split at h1
  ·rename_i hcal
   split at h2
   ·rename_i x t hx ht
    simp only [Bool.and_eq_true] at h2
    exact aJl R hop hcal (by apply Array.ext';simpa using hx) ht h2.1 h2.2 he
   ·cases h2
  ·cases h1
 case slice.kZ t x lo hi mx y lo' hi'=>
  cases mx with
  | some _=>simp [qO] at hc
  | none=>
   simp only [qO,Bool.and_eq_true] at hc
   exact aPV R hop hc.1.1.1 hc.1.1.2 hc.1.2 hc.2 he
 case slice.yA t x lo hi mx m y lo' hi'=>
  cases mx with
  | some _=>simp [qO] at hc
  | none=>
   simp only [qO,Bool.and_eq_true] at hc
   obtain ⟨⟨⟨h1,h2⟩,h3⟩,h4⟩:=hc
   split at h1
   ·rename_i el hel
    simp only [beq_iff_eq] at h1
    exact aE8 R hop hel h1 h2 h3 h4 he
   ·cases h1
 case indexAddr.dN=>
  obtain ⟨⟨h1,h2⟩,h3⟩:=hc
  split at h1
  ·rename_i n' el hel
   simp only [Bool.and_eq_true,beq_iff_eq] at h1
   obtain ⟨rfl,h1⟩:=h1
   exact aHr R hop hel h1 h2 h3 he
  ·cases h1
 case index.Be=>
  obtain ⟨⟨h1,h2⟩,h3⟩:=hc
  split at h1
  ·rename_i n' el hel
   simp only [Bool.and_eq_true,beq_iff_eq] at h1
   obtain ⟨⟨rfl,h1⟩,h4⟩:=h1
   exact aHE R hop hel h1 h4 h2 h3 he
  ·cases h1
 case call.aM c f args ρ =>
  obtain ⟨⟨⟨h1,h2⟩,h3⟩,h4⟩:=hc
  split at h1
  ·rename_i g hcal
   have:g=f:=by simpa using h1
   subst this
   exact aPj hS0 hsp R hop hcal h2 h3 h4 he
  ·cases h1
 case call.call c f args=>
  obtain ⟨h1,h2⟩:=hc
  split at h1
  ·rename_i g hcal
   have:g=f:=by simpa using h1
   subst this
   exact H3 hS0 hsp R hop hcal h2 he
  ·cases h1
 case call.len c y=>
  obtain ⟨h1,h2⟩:=hc
  split at h1
  ·rename_i hcal
   split at h2
   ·rename_i x t hx ht
    simp only [Bool.and_eq_true] at h2
    exact aEw R hop hcal (by apply Array.ext';simpa using hx) ht h2.1 h2.2 he
   ·cases h2
  ·cases h1
 case indexAddr.idx=>
  obtain ⟨⟨h1,h2⟩,h3⟩:=hc
  split at h1
  ·rename_i el hel
   simp only [beq_iff_eq] at h1
   exact aQR R hop hel h1 h2 h3 he
  ·cases h1
 case slice.sl t x lo hi mx y lo' hi'=>
  cases mx with
  | some _=>simp [qO] at hc
  | none=>
   simp only [qO,Bool.and_eq_true] at hc
   obtain ⟨⟨⟨h1,h2⟩,h3⟩,h4⟩:=hc
   split at h1
   ·rename_i el hel
    simp only [beq_iff_eq] at h1
    exact aNT R hop hel h1 h2 h3 h4 he
   ·cases h1
 case call.min c x y=>
  obtain ⟨h1,h2⟩:=hc
  split at h1
  ·rename_i hcal
   exact aPN R hop hcal h2 he
  ·cases h1
 case convert.str=>
  obtain ⟨⟨h1,h2⟩,h3⟩:=hc
  split at h1
  ·rename_i el hel
   simp only [beq_iff_eq] at h1
   exact aLq R hop hel h1 h2 h3 he
  ·cases h1
 case binOp.nL=>exact aJY R hop hc.1.1.2 hc.1.2 hc.2 he
 case makeSlice.rL=>exact aNf hS0 hdn R hop hc.1.1.1.1 hc.1.1.1.2 hc.1.1.2 hc.1.2 hc.2 he
 case buildSlice.fX=>
  obtain ⟨⟨⟨⟨h1,h2⟩,h3⟩,h4⟩,h5⟩:=hc
  subst h2
  exact aAn hS0 hdn R hop h1 h3 h4 h5 he
 case buildSlice.sG=>
  obtain ⟨⟨⟨⟨h1,h2⟩,h3⟩,h4⟩,h5⟩:=hc
  subst h2
  exact aFV hS0 R hop h1 h3 h4 h5 he
 case call.app c t x y=>
  obtain ⟨⟨h1,h2⟩,h3⟩:=hc
  split at h1
  ·rename_i hcal
   split at h2
   ·rename_i t1 t2 hty
    simp only [Bool.and_eq_true,beq_iff_eq] at h2
    obtain ⟨rfl,h2⟩:=h2
    exact aHp hS0 hdn R hop hcal (by apply Array.ext';simpa using hty) h2 h3 he
   ·cases h2
  ·cases h1
 case call.lO c f args=>
  obtain ⟨h1,h2⟩:=hc
  split at h1
  ·rename_i g hcal
   have:g=f:=by simpa using h1
   subst this
   exact aNl hS0 hsp R hop hcal h2 he
  ·cases h1
 case call.Bl c t x y=>
  obtain ⟨⟨h1,h2⟩,h3⟩:=hc
  split at h1
  ·rename_i hcal
   split at h2
   ·rename_i t1 t2 hty
    simp only [Bool.and_eq_true,beq_iff_eq] at h2
    exact aMt hS0 hdn R hop hcal (by apply Array.ext';simpa using hty) h2.1 h2.2 h3 he
   ·cases h2
  ·cases h1
 case call.cap c y=>
  obtain ⟨h1,h2⟩:=hc
  split at h1
  ·rename_i hcal
   split at h2
   ·rename_i x t hx ht
    simp only [Bool.and_eq_true] at h2
    exact aCr R hop hcal (by apply Array.ext';simpa using hx) ht h2.1 h2.2 he
   ·cases h2
  ·cases h1
 case call.zE c f args=>
  obtain ⟨h1,h2⟩:=hc
  split at h1
  ·rename_i g hcal
   have:g=f:=by simpa using h1
   subst this
   exact aE4 hS0 hdn hsp R hop hcal h2 he
  ·cases h1
def Ij (P:Program) (N:Nat) (ops:Array Oper) (o:Oper) (so:bW):Bool:=
 qO P o.op so.op&&decide (o.dst=so.dst)&&(match o.dst with | some d=>decide (d<N)| none=>true) &&
 (match o.guard,so.guard with
  | none,none=>true
  | some (j,w),some (g,w')=>w==w'&&decide ((ops[j]?).bind (·.dst)=some g)
  | _,_=>false)
theorem I3 {ops:Array Oper} {o:Oper} {so:bW} (hS0:Start S0 w0) (hsp:fA P sp) (R:Rel S0 w0 N μ s a w) (hc:Ij P N ops o so=true) (he:eG sp so s=some s')
 {K:Act->World->Prop} (hK : ∀ μ' a' w',Rel S0 w0 N μ' s' a' w'->K a' w') :
 if Region.wanted o (yielded ops a.tmps) then o.wp P a w K Q∨(o.asks P a w/\LetsOut Q) else K (a.put o.dst undef) w:=by
 simp only [Ij,Bool.and_eq_true,decide_eq_true_eq] at hc
 obtain ⟨⟨⟨h1,h2⟩,h3⟩,h4⟩:=hc
 have hd : ∀ n,o.dst=some n->n<N:=fun n hn=>by rw [hn] at h3;simpa using h3
 have run : ∀ {v:AV} {s1:St},aC sp so.dst so.op s=some (v,s1)->(∀ μ' a' w',Rel S0 w0 N μ' (s1.put so.dst v) a' w'->K a' w')->o.wp P a w K Q:=fun h1' hK'=>by
  refine aHw hS0 (fun n hn=>S0.io n (Nat.lt_of_lt_of_le (hd n (h2.trans hn)) R.small)) hsp R h1 h1' K Q (fun μ' y w' R' hv=> ?_)
  have:=R'.put (d:=o.dst) hv hd
  rw [h2] at this ⊢
  exact hK' _ _ _ this
 unfold eG at he
 split at h4
 ·rename_i hg1 hg2
  rw [hg2] at he
  simp only at he
  have hw:Region.wanted o (yielded ops a.tmps)=true:=by simp [Region.wanted,hg1]
  rw [if_pos hw]
  split at he
  ·rename_i v s1 h5
   cases he
   exact .inl (run h5 hK)
  ·cases he
 ·rename_i j wt g wt' hg1 hg2
  simp only [Bool.and_eq_true,beq_iff_eq,decide_eq_true_eq] at h4
  obtain ⟨rfl,hj⟩:=h4
  rw [hg2] at he
  simp only at he
  have skip:Region.wanted o (yielded ops a.tmps)=false->s.put so.dst (.t [])=s'->(if Region.wanted o (yielded ops a.tmps) then o.wp P a w K Q∨(o.asks P a w/\LetsOut Q) else K (a.put o.dst undef) w):=by
   intro hw hs
   rw [hw]
   refine hK μ _ _ ?_
   have:=R.put (d:=o.dst) (v:= .t []) (y:=undef) ⟨[],rfl,trivial⟩ hd
   rw [← hs,← h2]
   exact this
  split at he
  ·rename_i b hb
   have hval:a.tmps.getD g undef = .bool b:=by
    have:=R.tmp g
    rw [hb] at this
    exact this.1
   have hy:yielded ops a.tmps j=some b:=by
    unfold yielded
    rw [hj]
    simp only [Option.bind_some]
    cases hq:a.tmps[g]? with
    | none=>rw [Array.getD_eq_getD_getElem?,hq] at hval;cases hval
    | some z=>rw [Array.getD_eq_getD_getElem?,hq] at hval;simp only [Option.getD_some] at hval;subst hval;rfl
   by_cases hbw:b=wt
   ·subst hbw
    rw [if_pos rfl] at he
    have hw:Region.wanted o (yielded ops a.tmps)=true:=by simp [Region.wanted,hg1,hy]
    rw [if_pos hw]
    split at he
    ·rename_i v s1 h5
     cases he
     exact .inl (run h5 hK)
    ·cases he
   ·rw [if_neg hbw] at he
    have hw:Region.wanted o (yielded ops a.tmps)=false:=by simp [Region.wanted,hg1,hy,hbw]
    exact skip hw (by simpa using he)
  ·rename_i l hb
   have hval : ∃ ys:List Value,a.tmps.getD g undef = .tuple ys.toArray:=by
    have:=R.tmp g
    rw [hb] at this
    obtain ⟨ys,h,_⟩:=this
    exact ⟨ys,h⟩
   obtain ⟨ys,hval⟩:=hval
   have hy:yielded ops a.tmps j=none:=by
    unfold yielded
    rw [hj]
    simp only [Option.bind_some]
    cases hq:a.tmps[g]? with
    | none=>rfl
    | some z=>rw [Array.getD_eq_getD_getElem?,hq] at hval;simp only [Option.getD_some] at hval;subst hval;rfl
   have hw:Region.wanted o (yielded ops a.tmps)=false:=by simp [Region.wanted,hg1,hy]
   exact skip hw (by simpa using he)
  ·cases he
 ·cases h4
def Fs (P:Program) (N:Nat) (ops:Array Oper):List Nat->List bW->Bool
 | [],[]=>true
 | i::is,so::sos=>(match ops[i]? with | some o=>Ij P N ops o so | none=>false)&&Fs P N ops is sos
 | _,_=>false
theorem l8 {ops:Array Oper} (hS0:Start S0 w0) (hsp:fA P sp) {sn:St} (hQ : ∀ μ' a' w',Rel S0 w0 N μ' sn a' w'->Q .normal a' w') :
 ∀ (is:List Nat) (sos:List bW) {μ : Nat->Nat} {s:St} {a:Act} {w:World},Fs P N ops is sos=true->Rel S0 w0 N μ s a w->gU sp sos s=some sn->wpOps P ops Q is a w
 | [],[],μ,s,a,w,_,R,he=>by
  simp only [gU,Option.some.injEq] at he
  subst he
  exact hQ _ _ _ R
 | [],_::_,_,_,_,_,h,_,_=>by cases h
 | _::_,[],_,_,_,_,h,_,_=>by cases h
 | i::is,so::sos,μ,s,a,w,h,R,he=>by
  simp only [Fs,Bool.and_eq_true] at h
  obtain ⟨h1,h2⟩:=h
  simp only [gU] at he
  split at he
  ·rename_i s1 h3
   split at h1
   ·rename_i o ho
    have:=I3 (Q:=Q) hS0 hsp R h1 h3 (K:=wpOps P ops Q is) (fun μ' a' w' R'=>l8 hS0 hsp hQ is sos h2 R' he)
    simp only [wpOps,ho]
    exact this
   ·cases h1
  ·cases he
end
end Go.VC
namespace Go.VC
open Go.RowKit
def mF (o:Oper):List Nat:=(o.after.toList.filter (Region.binds .any)).map (·.on)
def aAM (acc:List Nat) (aRR:List Nat):Nat:=aRR.foldl (fun m k=>m ||| 2 ^ k ||| acc.getD k 0) 0
def Kg:List Nat->List (List Nat)->List Nat
 | acc,[]=>acc
 | acc,a::aRR=>Kg (acc ++ [aAM acc a]) aRR
theorem X9 (acc:List Nat) : ∀ (aRR:List Nat) (m e:Nat),Nat.testBit (aRR.foldl (fun m k=>m ||| 2 ^ k ||| acc.getD k 0) m) e=true ->
 Nat.testBit m e=true ∨ ∃ k∈aRR,e=k∨Nat.testBit (acc.getD k 0) e=true
 | [],m,e,h=> .inl h
 | k::aRR,m,e,h=>by
  simp only [List.foldl_cons] at h
  rcases X9 acc aRR _ e h with h1 | ⟨k',hk',h1⟩
  ·simp only [Nat.testBit_or,Bool.or_eq_true] at h1
   rcases h1 with (h1 | h1)| h1
   ·exact .inl h1
   ·right
    rw [Nat.testBit_two_pow] at h1
    exact ⟨k,by simp,.inl (by simpa using (of_decide_eq_true h1).symm)⟩
   ·exact .inr ⟨k,by simp,.inr h1⟩
  ·exact .inr ⟨k',by simp [hk'],h1⟩
theorem aAY (A:List (List Nat)) (D:Nat->Prop) (hD : ∀ j aRR,A[j]? = some aRR->D j -> ∀ k∈aRR,D k) :
 ∀ (rest:List (List Nat)) (acc:List Nat),(∀ i,rest[i]? = A[acc.length+i]?) ->
  (∀ j aRR,A[j]? = some aRR->j<acc.length->(∀ k∈aRR,D k) -> ∀ e,Nat.testBit (acc.getD j 0) e=true->D e) ->
  ∀ j aRR,A[j]? = some aRR->(∀ k∈aRR,D k) -> ∀ e,Nat.testBit ((Kg acc rest).getD j 0) e=true->D e
 | [],acc,hr,hacc,j,aRR,hj,hk,e,he=>by
  have hlt:j<acc.length:=by
   rcases Nat.lt_or_ge j acc.length with h | h
   ·exact h
   ·simp only [Kg] at he
    rw [List.getD_eq_getElem?_getD,List.getElem?_eq_none h] at he
    simp at he
  exact hacc j aRR hj hlt hk e he
 | a::rest,acc,hr,hacc,j,aRR,hj,hk,e,he=>by
  have ha:A[acc.length]? = some a:=by have:=hr 0;simpa using this.symm
  refine aAY A D hD rest (acc ++ [aAM acc a]) (fun i=> ?_) (fun j' as' hj' hlt' hk' e' he'=> ?_) j aRR hj hk e he
  ·have:=hr (i+1)
   simp only [List.getElem?_cons_succ] at this
   rw [this,List.length_append]
   congr 1
   simp;omega
  ·rw [List.length_append] at hlt'
   by_cases hjl:j'<acc.length
   ·refine hacc j' as' hj' hjl hk' e' ?_
    rw [List.getD_eq_getElem?_getD,List.getElem?_append_left hjl] at he'
    rw [List.getD_eq_getElem?_getD]
    exact he'
   ·have hje:j'=acc.length:=by simp at hlt';omega
    subst hje
    rw [ha] at hj'
    cases hj'
    rw [List.getD_eq_getElem?_getD,List.getElem?_append_right (Nat.le_refl _)] at he'
    simp at he'
    rcases X9 acc a 0 e' he' with h1 | ⟨k,hkm,h1 | h1⟩
    ·simp at h1
    ·subst h1;exact hk' e' hkm
    ·have hkl:k<acc.length:=by
      rcases Nat.lt_or_ge k acc.length with h | h
      ·exact h
      ·rw [List.getD_eq_getElem?_getD,List.getElem?_eq_none h] at h1;simp at h1
     have hDk:=hk' k hkm
     cases hAk:A[k]? with
     | none=>
      exfalso
      have h0:A[acc.length]?.isSome=true:=by rw [ha];rfl
      have:acc.length<A.length:=by
       rcases Nat.lt_or_ge acc.length A.length with h | h
       ·exact h
       ·rw [List.getElem?_eq_none h] at h0;cases h0
      rw [List.getElem?_eq_none_iff] at hAk
      omega
     | some as2=>exact hacc k as2 hAk hkl (hD k as2 hAk hDk) e' h1
def xW (C:List Nat):List (Nat×bW)->Bool
 | []=>true
 | (i,a)::rest=>rest.all (fun jb=>Nat.testBit (C.getD jb.1 0) i||a.indep jb.2)&&xW C rest
def number:Nat->List bW->List (Nat×bW)
 | _,[]=> []
 | i,a::aRR=>(i,a)::number (i+1) aRR
def R4 (ops:Array Oper) (sos:List bW):Bool:=
 xW (Kg [] (ops.toList.map mF)) (number 0 sos)&&(ops.toList.zipIdx.all fun oi=>(mF oi.1).all (· < oi.2))
theorem aAC {C:List Nat} : ∀ {l:List (Nat×bW)},xW C l=true -> ∀ pre x post,l=pre++x::post -> ∀ e∈pre,Nat.testBit (C.getD x.1 0) e.1=true∨e.2.indep x.2=true
 | [],_,pre,x,post,h,_,_=>by simp at h
 | (i,a)::rest,hp,pre,x,post,h,e,he=>by
  simp only [xW,Bool.and_eq_true,List.all_eq_true] at hp
  cases pre with
  | nil=>cases he
  | cons p pre=>
   simp only [List.cons_append,List.cons.injEq] at h
   obtain ⟨rfl,rfl⟩:=h
   rcases List.mem_cons.1 he with rfl | he
   ·have:=hp.1 x (by simp)
    simpa using this
   ·exact aAC hp.2 pre x post rfl e he
theorem Rn {C:List Nat} : ∀ {l l':List (Nat×bW)},xW C l=true->l'.Sublist l->xW C l'=true
 | [],l',_,h=>by rw [List.sublist_nil.1 h];rfl
 | (i,a)::rest,l',hp,h=>by
  simp only [xW,Bool.and_eq_true,List.all_eq_true] at hp
  cases h with
  | cons _ h=>exact Rn hp.2 h
  | cons_cons _ h=>
   simp only [xW,Bool.and_eq_true,List.all_eq_true]
   exact ⟨fun x hx=>hp.1 x (h.subset hx),Rn hp.2 h⟩
section
variable {P:Program} {S0:Cx} {w0:World} {N:Nat} {sp:Spec} {Q:Exit->Act->World->Prop}
theorem N5 {ops:Array Oper} (hS0:Start S0 w0) (hsp:fA P sp) {sn:St} (hQ : ∀ μ' a' w',Rel S0 w0 N μ' sn a' w'->Q .normal a' w')
 (C:List Nat) (hC:C=Kg [] (ops.toList.map mF)) (hlt : ∀ j o,ops[j]? = some o -> ∀ k∈mF o,k<j) :
 ∀ (fuel:Nat) (rem:List (Nat×bW)) (listed:Array Bool) {μ : Nat->Nat} {s:St} {a:Act} {w:World},
  rem.length=fuel->(∀ x∈rem,∃ o,ops[x.1]? = some o/\Ij P N ops o x.2=true)->(∀ i o,ops[i]? = some o->listed.getD i true=false -> ∃ so,(i,so)∈rem) ->
  (∀ x∈rem,listed.getD x.1 true=false)->listed.size=ops.size->(rem.map (·.1)).Pairwise (· < ·)->xW C rem=true->(∀ j o,ops[j]? = some o->listed.getD j false=true -> ∀ k∈mF o,listed.getD k false=true) ->
  Rel S0 w0 N μ s a w->gU sp (rem.map (·.2)) s=some sn->wpAny P .any ops Q fuel listed a w
 | 0,rem,listed,μ,s,a,w,hf,_,hall,_,_,_,_,_,R,he=>by
  have:rem = []:=List.length_eq_zero_iff.1 hf
  subst this
  simp only [List.map_nil,gU,Option.some.injEq] at he
  subst he
  refine ⟨?_,hQ _ _ _ R⟩
  cases hr:Region.ready .any ops listed with
  | nil=>rfl
  | cons j js=>
   obtain ⟨h0,o,ho,_⟩:=mem_ready.1 (show j∈Region.ready .any ops listed by rw [hr];simp)
   obtain ⟨so,hso⟩:=hall j o ho h0
   cases hso
 | fuel+1,rem,listed,μ,s,a,w,hf,hchk,hall,hun,hsize,hsorted,hpairs,hdown,R,he=>by
  have hgetD : ∀ i,i<listed.size->(listed.getD i true=listed.getD i false):=fun i hi=>by simp [hi]
  refine ⟨fun hnil=> ?_,fun i hi=> ?_⟩
  ·exfalso
   cases rem with
   | nil=>simp at hf
   | cons x rest=>
    obtain ⟨o,ho,_⟩:=hchk x (by simp)
    have:x.1∈Region.ready .any ops listed:=by
     refine mem_ready.2 ⟨hun x (by simp),o,ho,fun e he' hb=> ?_⟩
     have hk:e.on∈mF o:=by
      unfold mF
      exact List.mem_map.2 ⟨e,List.mem_filter.2 ⟨by simpa using he',hb⟩,rfl⟩
     have hlt':=hlt x.1 o ho e.on hk
     have hxs:x.1<ops.size:=(Array.getElem?_eq_some_iff.1 ho).1
     cases hl:listed.getD e.on false with
     | true=>rfl
     | false=>
      exfalso
      have hes:e.on<ops.size:=by omega
      have h1:listed.getD e.on true=false:=by rw [hgetD _ (by omega)];exact hl
      obtain ⟨so,hso⟩:=hall e.on _ (Array.getElem?_eq_getElem hes) h1
      rw [List.map_cons,List.pairwise_cons] at hsorted
      rcases List.mem_cons.1 hso with h2 | h2
      ·rw [← h2] at hlt';exact Nat.lt_irrefl _ hlt'
      ·have:=hsorted.1 e.on (List.mem_map.2 ⟨_,h2,rfl⟩)
       omega
    rw [hnil] at this
    cases this
  ·obtain ⟨h0,o,ho,hready⟩:=mem_ready.1 hi
   obtain ⟨so,hso⟩:=hall i o ho h0
   obtain ⟨pre,post,hrem⟩:=List.append_of_mem hso
   have hchk_i:=hchk (i,so) hso
   obtain ⟨o',ho',hco⟩:=hchk_i
   have:o'=o:=by rw [ho] at ho';cases ho';rfl
   subst this
   have hbefore : ∀ k∈mF o',listed.getD k false=true:=fun k hk=>by
    unfold mF at hk
    obtain ⟨e,he',rfl⟩:=List.mem_map.1 hk
    obtain ⟨h1,h2⟩:=List.mem_filter.1 he'
    exact hready e (by simpa using h1) h2
   have hind : ∀ e∈pre,e.2.indep so=true:=fun e hep=>by
    rcases aAC hpairs pre (i,so) post hrem e hep with h1 | h1
    ·exfalso
     have hA:(ops.toList.map mF)[i]? = some (mF o'):=by simp [ho]
     have:=aAY (ops.toList.map mF) (fun k=>listed.getD k false=true) (fun j aRR hj hDj k hk=>by
      have hj' : ∃ o,ops[j]? = some o/\mF o=aRR:=by
       rw [List.getElem?_map] at hj
       cases hq:ops.toList[j]? with
       | none=>rw [hq] at hj;cases hj
       | some o2=>rw [hq] at hj;cases hj;exact ⟨o2,by simpa using hq,rfl⟩
      obtain ⟨o2,h2,rfl⟩:=hj'
      exact hdown j o2 h2 hDj k hk) (ops.toList.map mF) [] (fun i=>by simp) (fun j aRR _ hlt _=>by simp at hlt) i (mF o') hA hbefore e.1 (by rw [← hC];exact h1)
     have hun':=hun e (by rw [hrem];simp [hep])
     have hsz:e.1<listed.size:=by
      rcases Nat.lt_or_ge e.1 listed.size with h | h
      ·exact h
      ·simp [Array.getElem?_eq_none h] at hun'
     rw [hgetD _ hsz] at hun'
     rw [hun'] at this
     cases this
    ·exact h1
   have he2:gU sp (so::((pre++post).map (·.2))) s=some sn:=by
    rw [hrem] at he
    simp only [List.map_append,List.map_cons] at he
    rw [List.map_append]
    exact L9 (post.map (·.2)) (pre.map (·.2)) (fun x hx=>by
     obtain ⟨e,hep,rfl⟩:=List.mem_map.1 hx
     exact hind e hep) he
   simp only [gU] at he2
   split at he2
   ·rename_i s1 h1
    have hiz:i<listed.size:=by rw [hsize];exact (Array.getElem?_eq_some_iff.1 ho).1
    have hnotin : ∀ x∈pre++post,x.1≠i:=fun x hx hxi=>by
     rw [hrem] at hsorted
     simp only [List.map_append,List.map_cons,List.pairwise_append,List.pairwise_cons] at hsorted
     obtain ⟨_,⟨h3,_⟩,h4⟩:=hsorted
     rcases List.mem_append.1 hx with hx | hx
     ·have:=h4 x.1 (List.mem_map.2 ⟨x,hx,rfl⟩) i (by simp)
      omega
     ·have:=h3 x.1 (List.mem_map.2 ⟨x,hx,rfl⟩)
      omega
    have hsub:(pre++post).Sublist rem:=by
     rw [hrem]
     exact List.Sublist.append_left (List.sublist_cons_self _ _) _
    have hK : ∀ μ' a' w',Rel S0 w0 N μ' s1 a' w'->wpAny P .any ops Q fuel (listed.setIfInBounds i true) a' w':=fun μ' a' w' R'=>by
     refine N5 hS0 hsp hQ C hC hlt fuel (pre++post) (listed.setIfInBounds i true) ?_ (fun x hx=>hchk x (hsub.subset hx)) (fun k ok hk hku=> ?_) (fun x hx=> ?_) (by simpa using hsize) (List.Pairwise.sublist (hsub.map _) hsorted) (Rn hpairs hsub) (fun j oj hj hjl k hk=> ?_) R' he2
     ·rw [hrem] at hf;simp at hf ⊢;omega
     ·have hki:k≠i:=fun e=>by subst e;simp [hiz] at hku
      rw [getD_set_ne true (Ne.symm hki)] at hku
      obtain ⟨so',hs'⟩:=hall k ok hk hku
      rw [hrem] at hs'
      refine ⟨so',?_⟩
      rcases List.mem_append.1 hs' with h | h
      ·exact List.mem_append_left _ h
      ·rcases List.mem_cons.1 h with h | h
       ·cases h;exact absurd rfl hki
       ·exact List.mem_append_right _ h
     ·rw [getD_set_ne true (Ne.symm (hnotin x hx))]
      exact hun x (hsub.subset hx)
     ·by_cases hji:j=i
      ·subst hji
       rw [ho] at hj
       cases hj
       exact getD_set_true (hbefore k hk)
      ·have hjl':listed.getD j false=true:=by
        simpa [Array.getElem?_setIfInBounds_ne (Ne.symm hji)] using hjl
       exact getD_set_true (hdown j oj hj hjl' k hk)
    have:=I3 (Q:=Q) hS0 hsp R hco h1 hK
    unfold wpOp
    simp only [ho]
    exact this
   ·cases he2
end
end Go.VC
namespace Go.VC
open Go.RowKit
def fB (P:Program) (N:Nat):Code->SC->Bool
 | .skip,.skip=>true
 | .label _,.skip=>true
 | .region _ ops draw,.region sos=>Fs P N ops (List.range ops.size) sos&&(!draw||(P.follows .mixedOrders&&R4 ops sos))
 | .seq a b,.seq a' b'=>fB P N a a'&&fB P N b b'
 | .cond c a b,.cond c' a' b'=>aJ c c'&&fB P N a a'&&fB P N b b'
 | .block i a,.block j a'=>i==j&&fB P N a a'
 | .loop a,.loop a'=>fB P N a a'
 | c,.forget _ a'=>fB P N c a'
 | .scope a,.scope a'=>fB P N a a'
 | .exit i,.exit j=>i==j
 | .ret,.ret=>true
 | _,.bad=>true
 | _,_=>false
def AX.out:AX->Exit
 | .n=> .normal
 | .e id=> .exit id
 | .r=> .ret
section
variable {P:Program} {S0:Cx} {w0:World} {N:Nat} {sp:Spec}
theorem Iz : ∀ (i:Nat) (l:List bW) (x:Nat×bW),x∈number i l ↔ ∃ j,l[j]? = some x.2/\x.1=i+j
 | i,[],x=>by simp [number]
 | i,a::l,x=>by
  simp only [number,List.mem_cons,Iz (i+1) l x]
  constructor
  ·rintro (rfl | ⟨j,h1,h2⟩)
   ·exact ⟨0,rfl,rfl⟩
   ·exact ⟨j+1,by simpa using h1,by omega⟩
  ·rintro ⟨j,h1,h2⟩
   cases j with
   | zero=>simp at h1;left;cases x;simp at h1 h2 ⊢;exact ⟨h2,h1.symm⟩
   | succ j=>right;exact ⟨j,by simpa using h1,by omega⟩
theorem U7 : ∀ (i:Nat) (l:List bW),(number i l).map (·.2)=l
 | i,[]=>rfl
 | i,a::l=>by simp [number,U7 (i+1) l]
theorem N8 : ∀ (i:Nat) (l:List bW),(number i l).length=l.length
 | i,[]=>rfl
 | i,a::l=>by simp [number,N8 (i+1) l]
theorem H6 : ∀ (i:Nat) (l:List bW),((number i l).map (·.1)).Pairwise (· < ·)
 | i,[]=>List.Pairwise.nil
 | i,a::l=>by
  simp only [number,List.map_cons,List.pairwise_cons]
  refine ⟨fun x hx=> ?_,H6 (i+1) l⟩
  obtain ⟨y,hy,rfl⟩:=List.mem_map.1 hx
  obtain ⟨j,_,h⟩:=(Iz (i+1) l y).1 hy
  omega
theorem D9 {ops:Array Oper} : ∀ (is:List Nat) (sos:List bW),Fs P N ops is sos=true->is.length=sos.length /\ ∀ (j i:Nat) (so:bW),is[j]? = some i->sos[j]? = some so -> ∃ o,ops[i]? = some o/\Ij P N ops o so=true
 | [],[],_=>⟨rfl,fun j i so h _=>by simp at h⟩
 | [],_::_,h=>by cases h
 | _::_,[],h=>by cases h
 | i::is,so::sos,h=>by
  simp only [Fs,Bool.and_eq_true] at h
  obtain ⟨h1,h2⟩:=h
  obtain ⟨h3,h4⟩:=D9 is sos h2
  refine ⟨by simp [h3],fun j i' so' hj hs=> ?_⟩
  cases j with
  | zero=>
   simp at hj hs
   subst hj hs
   split at h1
   ·rename_i o ho;exact ⟨o,ho,h1⟩
   ·cases h1
  | succ j=>exact h4 j i' so' (by simpa using hj) (by simpa using hs)
theorem aPQ {id:Nat} {ops:Array Oper} {draw:Bool} {sos:List bW} {Q:Exit->Act->World->Prop} {μ : Nat->Nat} {s sn:St} {a:Act} {w:World} (hS0:Start S0 w0) (hsp:fA P sp)
 (hc:fB P N (.region id ops draw) (.region sos)=true) (R:Rel S0 w0 N μ s a w) (he:gU sp sos s=some sn) (hQ : ∀ μ' a' w',Rel S0 w0 N μ' sn a' w'->Q .normal a' w'):(Code.region id ops draw).wp P Q a w:=by
 simp only [fB,Bool.and_eq_true] at hc
 obtain ⟨h1,h2⟩:=hc
 cases draw with
 | false=>exact wp_region (l8 hS0 hsp hQ _ _ h1 R he)
 | true=>
  simp only [Bool.not_true,Bool.false_or,Bool.and_eq_true,R4] at h2
  obtain ⟨hm,hp,hl⟩:=h2
  obtain ⟨hlen,hrange⟩:=D9 _ _ h1
  rw [List.length_range] at hlen
  refine wp_region_any hm ?_
  refine N5 hS0 hsp hQ _ rfl (fun j o ho k hk=> ?_) ops.size (number 0 sos) (Array.replicate ops.size false) ?_ (fun x hx=> ?_) (fun i o ho _=> ?_) (fun x hx=> ?_) (by simp) (H6 0 sos) hp (fun j o ho hj=> ?_) R.drew (by rw [U7];exact he)
  ·have:=List.all_eq_true.1 hl (o,j) (by
    have:ops.toList[j]? = some o:=by simpa using ho
    exact List.mk_mem_zipIdx_iff_getElem?.2 this)
   have:=List.all_eq_true.1 this k hk
   simpa using this
  ·rw [N8];exact hlen.symm
  ·obtain ⟨j,h3,h4⟩:=(Iz 0 sos x).1 hx
   have hj:j<sos.length:=by
    rcases Nat.lt_or_ge j sos.length with h | h
    ·exact h
    ·rw [List.getElem?_eq_none h] at h3;cases h3
   have:=hrange j j x.2 (by rw [List.getElem?_range (by omega)]) h3
   rw [h4,Nat.zero_add]
   exact this
  ·have hi:i<sos.length:=by rw [← hlen];exact (Array.getElem?_eq_some_iff.1 ho).1
   exact ⟨sos[i],(Iz 0 sos _).2 ⟨i,List.getElem?_eq_getElem hi,by simp⟩⟩
  ·obtain ⟨j,h3,h4⟩:=(Iz 0 sos x).1 hx
   have hj:j<sos.length:=by
    rcases Nat.lt_or_ge j sos.length with h | h
    ·exact h
    ·rw [List.getElem?_eq_none h] at h3;cases h3
   have hx1:x.1<ops.size:=by omega
   simp [hx1]
  ·exfalso
   have hjs:j<ops.size:=(Array.getElem?_eq_some_iff.1 ho).1
   simp [hjs] at hj
theorem Yx (hS0:Start S0 w0) (hsp:fA P sp) (k:Nat) : ∀ (sc:SC) (c:Code),fB P N c sc=true -> ∀ {Q:Exit->Act->World->Prop} {μ : Nat->Nat} {s s':St} {ax:AX} {a:Act} {w:World},
 Rel S0 w0 N μ s a w->bQ sp k sc s=some (ax,s')->(∀ μ' a' w',Rel S0 w0 N μ' s' a' w'->Q ax.out a' w')->c.wp P Q a w:=by
 intro sc
 induction sc with
 | skip=>
  intro c hc Q μ s s' ax a w R he hQ
  simp only [bQ,Option.some.injEq,Prod.mk.injEq] at he
  obtain ⟨rfl,rfl⟩:=he
  cases c<;>simp only [fB,Bool.false_eq_true] at hc
  ·exact wp_skip (hQ _ _ _ R)
  ·exact wp_label (hQ _ _ _ R)
 | region sos=>
  intro c hc Q μ s s' ax a w R he hQ
  simp only [bQ] at he
  split at he
  ·rename_i s1 h1
   simp only [Option.some.injEq,Prod.mk.injEq] at he
   obtain ⟨rfl,rfl⟩:=he
   cases c
   case region id ops draw=>exact aPQ hS0 hsp hc R h1 hQ
   all_goals (simp only [fB,Bool.false_eq_true] at hc)
  ·cases he
 | seq x y ihx ihy=>
  intro c hc Q μ s s' ax a w R he hQ
  cases c
  case seq cx cy=>
   simp only [fB,Bool.and_eq_true] at hc
   simp only [bQ] at he
   split at he
   ·rename_i s1 h1
    refine wp_seq (ihx cx hc.1 R h1 (fun μ' a' w' R'=> ?_))
    exact ihy cy hc.2 R' he hQ
   ·rename_i z hz
    refine wp_seq (ihx cx hc.1 R he (fun μ' a' w' R'=> ?_))
    have:=hQ μ' a' w' R'
    cases ax with
    | n=>exact absurd he (hz s')
    | e id=>exact this
    | r=>exact this
  all_goals (simp only [fB,Bool.false_eq_true] at hc)
 | cond c' x y ihx ihy=>
  intro c hc Q μ s s' ax a w R he hQ
  cases c
  case cond c0 cx cy=>
   simp only [fB,Bool.and_eq_true] at hc
   simp only [bQ] at he
   split at he
   ·rename_i t ht
    refine wp_cond (t:=t) (R.val hc.1.1 ht).1 ?_
    cases t with
    | true=>exact ihx cx hc.1.2 R (by simpa using he) hQ
    | false=>exact ihy cy hc.2 R (by simpa using he) hQ
   ·cases he
  all_goals (simp only [fB,Bool.false_eq_true] at hc)
 | block id x ih=>
  intro c hc Q μ s s' ax a w R he hQ
  cases c
  case block i cx=>
   simp only [fB,Bool.and_eq_true,beq_iff_eq] at hc
   obtain ⟨rfl,hc⟩:=hc
   simp only [bQ] at he
   split at he
   ·rename_i j s1 h1
    refine wp_block (ih cx hc R h1 (fun μ' a' w' R'=> ?_))
    show Exit.inBlock i Q (.exit j) a' w'
    simp only [Exit.inBlock]
    split at he
    ·rename_i hji
     cases he
     rw [if_pos hji]
     exact hQ _ _ _ R'
    ·rename_i hji
     cases he
     rw [if_neg hji]
     exact hQ _ _ _ R'
   ·rename_i z hz
    refine wp_block (ih cx hc R he (fun μ' a' w' R'=> ?_))
    have:=hQ μ' a' w' R'
    cases ax with
    | n=>exact this
    | e j=>exact absurd he (hz j s')
    | r=>exact this
  all_goals (simp only [fB,Bool.false_eq_true] at hc)
 | loop x ih=>
  intro c hc Q μ s s' ax a w R he hQ
  cases c
  case loop cx=>
   simp only [fB] at hc
   simp only [bQ] at he
   have key : ∀ (m:Nat) {μ : Nat->Nat} {s:St} {a:Act} {w:World},Rel S0 w0 N μ s a w->iter (bQ sp k x) m s=some (ax,s')->Code.rounds P cx Q m a w:=by
    intro m
    induction m with
    | zero=>intro μ s a w R he;cases he
    | succ m ihm=>
     intro μ s a w R he
     rw [rounds_succ]
     simp only [iter] at he
     split at he
     ·rename_i s1 h1
      exact ih cx hc R h1 (fun μ' a' w' R'=>ihm R' he)
     ·rename_i z hz
      refine ih cx hc R he (fun μ' a' w' R'=> ?_)
      have:=hQ μ' a' w' R'
      cases ax with
      | n=>exact absurd he (hz s')
      | e j=>exact this
      | r=>exact this
   exact wp_loop_rounds k (key k R he)
  all_goals (simp only [fB,Bool.false_eq_true] at hc)
 | scope x ih=>
  intro c hc Q μ s s' ax a w R he hQ
  cases c
  case scope cx=>
   simp only [fB] at hc
   simp only [bQ] at he
   refine wp_scope_straight (ih cx hc R he (fun μ' a' w' R'=> ?_))
   have:=hQ μ' a' w' R'
   cases ax<;>exact this
  all_goals simp [fB] at hc
 | forget ns x ih=>
  intro c hc Q μ s s' ax a w R he hQ
  simp only [bQ] at he
  exact ih c (by cases c<;>simpa only [fB] using hc) (R.drop ns) he hQ
 | exit id=>
  intro c hc Q μ s s' ax a w R he hQ
  simp only [bQ,Option.some.injEq,Prod.mk.injEq] at he
  obtain ⟨rfl,rfl⟩:=he
  cases c
  case exit i=>
   simp only [fB,beq_iff_eq] at hc
   subst hc
   exact wp_exit (hQ _ _ _ R)
  all_goals (simp only [fB,Bool.false_eq_true] at hc)
 | ret=>
  intro c hc Q μ s s' ax a w R he hQ
  simp only [bQ,Option.some.injEq,Prod.mk.injEq] at he
  obtain ⟨rfl,rfl⟩:=he
  cases c
  case ret=>exact wp_ret (hQ _ _ _ R)
  all_goals (simp only [fB,Bool.false_eq_true] at hc)
 | bad=>intro c hc Q μ s s' ax a w R he hQ;cases he
def Ib (P:Program):List ResultVar->List SR->Bool
 | [],[]=>true
 | .tmp t::rs,.t n::ss=>t==n&&Ib P rs ss
 | .cell x t::rs,.c n agg size::ss=>x==n&&iV P t==some agg&&dH P t==some size&&Ib P rs ss
 | _,_=>false
def wK (P:Program) (fn:Func) (f:SF):Bool:=
 fn.ntmps==f.ntmps&&decide (f.ntmps<=1000)&&Ib P fn.results.toList f.res&&(match fn.body with | some c=>fB P f.ntmps c f.code | none=>false)
def Io (a:Act):ResultVar->Sem Value
 | .tmp t=>pure (a.tmps.getD t undef)
 | .cell x t=>do loadVar t (← asAddr (a.tmps.getD x undef))
theorem O6 (fn:Func) (a:Act):results fn a.tmps=(do let vs ← fn.results.mapM (Io a);pure (if h:vs.size=1 then vs[0] else .tuple vs)):=by
 unfold results
 congr 1
theorem Py {μ : Nat->Nat} {s:St} {a:Act} {w:World} (R:Rel S0 w0 N μ s a w) : ∀ (rs:List ResultVar) (ss:List SR) {l:List AP},Ib P rs ss=true->mO s ss=some l ->
 ∃ vs:List Value,(rs.mapM (Io a)).run P w = .ok vs w/\cP (own S0 μ s.mem) w l vs
 | [],[],l,_,he=>by
  simp only [mO,Option.some.injEq] at he
  subst he
  exact ⟨[],by simp,trivial⟩
 | [],_::_,_,h,_=>by cases h
 | .tmp _::_,[],_,h,_=>by cases h
 | .cell _ _::_,[],_,h,_=>by cases h
 | .tmp t::rs,.t n::ss,l,h,he=>by
  simp only [Ib,Bool.and_eq_true,beq_iff_eq] at h
  obtain ⟨rfl,h⟩:=h
  simp only [mO] at he
  split at he
  ·rename_i ap aRR hap has
   cases he
   obtain ⟨vs,h1,h2⟩:=Py R rs ss h has
   refine ⟨a.tmps.getD t undef::vs,?_,⟨?_,h2⟩⟩
   ·rw [List.mapM_cons]
    simp only [Io,Sem.run_bind,Sem.run_pure,Result.andThen_ok,h1]
   ·have:=R.tmp t
    unfold AV.part at hap
    split at hap
    ·rename_i z hz;cases hap;rw [hz] at this;exact this
    ·cases hap
  ·cases he
 | .cell x t::rs,.c n agg size::ss,l,h,he=>by
  simp only [Ib,Bool.and_eq_true,beq_iff_eq] at h
  obtain ⟨⟨⟨rfl,hrow⟩,hsize⟩,h⟩:=h
  simp only [mO] at he
  split at he
  ·rename_i m aRR hm has
   obtain ⟨vs,h1,h2⟩:=Py R rs ss h has
   have hp:a.tmps.getD x undef = .pointer (some ⟨μ m,0,none⟩):=by
    have:=R.tmp x
    unfold AV.ptr at hm
    split at hm
    ·rename_i z1 z2 hz;cases hm;rw [hz] at this;exact this.2
    ·cases hm
   split at he
   ·rename_i cs hcs
    obtain ⟨_,ys,zs,T,hb,hr⟩:=R.mem m cs hcs
    have hl:=kP hr
    split at he
    ·rename_i hsz
     cases agg with
     | true=>
      simp only [if_true,Option.some.injEq] at he
      subst he
      have hu : ∃ d,P.underlying t=some d/\d.isRow=true:=by
       unfold iV at hrow
       cases hu:P.underlying t with
       | none=>simp [hu] at hrow
       | some d=>exact ⟨d,rfl,by simpa [hu] using hrow⟩
      obtain ⟨d,hu,hd⟩:=hu
      refine ⟨.agg ys.toArray::vs,?_,⟨⟨ys,rfl,hr⟩,h2⟩⟩
      have hrange:w.rangeAt (μ m) 0 ys:=by
       have:=aBr hb 0 ys.length
       simpa using this
      rw [List.mapM_cons]
      simp only [Io,Sem.run_bind,Sem.run_pure,Result.andThen_ok,hp,asAddr,run_loadVar_mid w (μ m) 0 t ys d hrange hu hd (by rw [← hl,hsz];exact hsize),h1]
     | false=>
      simp only [Bool.false_eq_true,if_false] at he
      split at he
      ·rename_i c1
       simp only [Option.some.injEq] at he
       subst he
       cases ys with
       | nil=>exact hr.elim
       | cons y ys=>
        cases ys with
        | cons _ _=>exact hr.2.elim
        | nil=>
         refine ⟨y::vs,?_,⟨hr.1,h2⟩⟩
         have hcell:w.cell? ⟨μ m,0,none⟩=some y:=zC hb rfl
         rw [List.mapM_cons]
         simp only [Io,Sem.run_bind,Sem.run_pure,Result.andThen_ok,hp,asAddr,loadVar,qV hrow,Bool.false_eq_true,if_false,run_load,hcell,h1]
      ·cases he
    ·cases he
   ·cases he
  ·cases he
 | .tmp _::_,.c _ _ _::_,_,h,_=>by cases h
 | .cell _ _::_,.t _::_,_,h,_=>by cases h
theorem aOH {S:Nat->Prop} {w w':World} (h:fF (cx S).X w w'):Below w.heap.size w w':=⟨h.os,h.tape,h.output,h.size,fun k hk=>h.block k hk (fun ⟨n,hn⟩=>by cases hn)⟩
theorem aCR (l:List AP):(mP l).uB=false:=by
 match l with
 | []=>rfl
 | [_]=>rfl
 | _::_::_=>rfl
theorem aDm {sp:Spec} {k:Nat} {sf:SF} {aRR:List AP} {r:AV} (he:Ff sp k sf aRR=some r):r.uB=false:=by
 unfold Ff at he
 (repeat' split at he)<;>first |(cases he;exact aCR _)| cases he
theorem Zl {f:Nat} {fn:Func} {sf:SF} {aRR:List AP} {r:AV} (k:Nat) (hf:P.funcs[f]? = some fn) (hchk:wK P fn sf=true) (hsp:fA P sp) (hlen:aRR.length<=sf.ntmps) (he:Ff sp k sf aRR=some r):Qd P f aRR r:=by
 refine ⟨aDm he,?_⟩
 intro S w vs hS hG hrep
 have hst:Start (cx S) w:=⟨fun b h=>(hS b h).1,fun b h=>(hS b h).2,fun b ⟨n,hn⟩=>(by cases hn),hG⟩
 simp only [wK,Bool.and_eq_true,beq_iff_eq,decide_eq_true_eq] at hchk
 obtain ⟨⟨⟨hn,hsmall⟩,hres⟩,hbody⟩:=hchk
 split at hbody
 ·rename_i c hc
  have hvl:vs.length=aRR.length:=by
   have : ∀ {aRR:List AP} {vs:List Value},cP ⟨S,fun _=>0,fun _=>False⟩ w aRR vs->aRR.length=vs.length:=by
    intro aRR
    induction aRR with
    | nil=>intro vs h;cases vs with | nil=>rfl | cons _ _=>exact h.elim
    | cons x xs ih=>intro vs h;cases vs with | nil=>exact h.elim | cons y ys=>simp [ih h.2]
   exact (this hrep).symm
  have hext:Ext ⟨S,fun _=>0,fun _=>False⟩ w (own (cx S) (fun _=>0) (gY aRR).mem) w:=⟨fun n h=>h.elim,fun b h _=>⟨rfl,fun h'=>by
   rcases h' with h' | ⟨n,hn',_⟩
   ·exact h h'
   ·exact hn' rfl⟩,Nat.le_refl _,fun n h=>h.elim⟩
  have R:Rel (cx S) w sf.ntmps (fun _=>0) (gY aRR) { tmps:=vs.toArray++Array.replicate (fn.ntmps-vs.toArray.size) undef,defers:= [] } w:=by
   refine { tmp:=fun t=> ?_,mem:=fun n cs h=>(by cases h),inj:=fun n m h=>absurd rfl h,below:=fF.refl _ _,kS:=fun n b h=>(by cases h),defers:=rfl,size:=by simp;omega,small:=hsmall }
   show (match aRR[t]? with | some a=>AV.o a | none=> .o (.c .u)).rep _ _ _
   cases ht:aRR[t]? with
   | none=>trivial
   | some a=>
    obtain ⟨y,hy,hr⟩:=Li t hrep ht
    have hlt:t<vs.length:=by
     rcases Nat.lt_or_ge t vs.length with h | h
     ·exact h
     ·rw [List.getElem?_eq_none h] at hy;cases hy
    have e:(vs.toArray++Array.replicate (fn.ntmps-vs.toArray.size) undef).getD t undef=y:=by
     rw [Array.getD_eq_getD_getElem?,Array.getElem?_append_left (by simpa using hlt)]
     simp [hy]
    rw [e]
    exact AP.dU hext hr
  unfold Ff at he
  have fin : ∀ {s:St} {l:List AP},mO s sf.res=some l->l.all (·.free)=true->r=mP (l.map AP.wk) -> ∀ {μ':Nat->Nat} {a':Act} {w':World},Rel (cx S) w sf.ntmps μ' s a' w' ->
   a'.defers = [] /\ ∃ v,(results fn a'.tmps).run P w' = .ok v w'/\(∃ v',Ending.returned v = .returned v'/\r.rep ⟨S,fun _=>0,fun _=>False⟩ w' v'/\Below w.heap.size w w'):=by
   intro s l hl hfree hr μ' a' w' R'
   obtain ⟨us,h1,h2⟩:=Py (P:=P) R' fn.results.toList sf.res hres hl
   have h3:=Fg hfree h2
   have h4':cP ⟨S,fun _=>0,fun _=>False⟩ w' l us:=Kw (L:=⟨(own (cx S) μ' s.mem).S,fun _=>0,fun _=>False⟩) ⟨fun n h=>h.elim,fun b h _=>⟨rfl,fun h'=>h (.inl h')⟩,Nat.le_refl _,fun n h=>h.elim⟩ h3
   have h4:=Hm h4'
   refine ⟨R'.defers,(if h:us.toArray.size=1 then us.toArray[0] else .tuple us.toArray),?_,_,rfl,?_,aOH R'.below⟩
   ·rw [O6 fn a',Array.mapM_eq_mapM_toList]
    simp only [Sem.run_bind,Sem.run_map]
    rw [h1]
    simp
   ·rw [hr]
    generalize l.map AP.wk=l at h4
    match l,us,h4 with
    | [],[],_=>exact ⟨[],by simp,trivial⟩
    | [x],[y],h=>exact h.1
    | [x],[],h=>exact h.elim
    | [x],_::_::_,h=>exact h.2.elim
    | x::x'::l,[],h=>exact h.elim
    | x::x'::l,[y],h=>exact h.2.elim
    | x::x'::l,y::y'::us,h=>exact ⟨y::y'::us,by simp,h⟩
    | [],_::_,h=>exact h.elim
  split at he
  ·cases he
  ·rename_i ax s hax hcode
   split at he
   ·rename_i l0 hl0
    split at he
    ·rename_i l hl
     split at he
     ·rename_i hfree
      have hr:r=mP (l.map AP.wk):=by cases he;rfl
      refine calls_of_wp hf hc ?_
      refine Yx hst hsp k sf.code c hbody R hcode (fun μ' a' w' R'=> ?_)
      have:=fin hl hfree hr (R'.hY hst (uW l0))
      cases ax with
      | n=>exact this
      | e id=>exact absurd rfl (hax id)
      | r=>exact this
     ·cases he
    ·cases he
   ·cases he
  ·cases he
 ·cases hbody
def aRP (sp:Spec) (k:Nat) (f:SF) (args:List AP):Option (RT×Nat):=
 match bQ sp k f.code (gY args) with
 | some (.e _,_)=>none
 | some (_,s)=>match mO s f.res with
  | some [.c (.s t n 0)]=>some (t,n)
  | _=>none
 | none=>none
def nQ (args:List AP) (ns:List Nat) (cs:List AP):St:= { tm:=fun t=>match args[t]? with | some a=> .o a | none=> .o (.c .u),mem:=lk ns cs }
def Dk (mem:Nat->Option (List AC)) (ex:List (Nat×Nat)):List Nat->Option (List AP)
 | []=>some []
 | n::ns=>match Dk mem ex ns with
  | some l=>match cN (swp ex) n with
   | some j=>match mem j with
    | some cs=>match jI ex cs with
     | some x=>if j=n∨j<1000 then some (.g x::l) else none
     | none=>none
    | none=>some (.c .u::l)
   | none=>some (.c .u::l)
  | none=>none
def Dc (mem:Nat->Option (List AC)):List (Nat×Nat)->List Nat
 | []=> []
 | (j,_)::r=>(match mem j with | some cs=>rF cs | none=> [])++Dc mem r
def K8 (ns:List Nat) (cs:List AP) (ex:List (Nat×Nat)) (mem:Nat->Option (List AC)):Bool:=ns.all fun n=>(lk ns cs n).isNone||(cN (swp ex) n==some n&&(mem n).isSome)
def At (f:SF) (ns:List Nat) (cs:List AP) (ex:List (Nat×Nat)) (s:St):Option AV:=
 match mO s f.res with
 | some l0=>
  match mO (s.hY (uW l0++Dc s.mem ex)) f.res,Dk (s.hY (uW l0++Dc s.mem ex)).mem ex ns with
  | some l,some outs=>match eL ex l with
   | some l'=>if K8 ns cs ex (s.hY (uW l0++Dc s.mem ex)).mem=true then some (.io ns outs (l'.map AP.wk)) else none
   | none=>none
  | _,_=>none
 | none=>none
def Vb (sp:Spec) (k:Nat) (f:SF) (ns:List Nat) (ex:List (Nat×Nat)) (args cs:List AP):Option AV:=
 match bQ sp k f.code (nQ args ns cs) with
 | some (.e _,_)=>none
 | some (_,s)=>At f ns cs ex s
 | none=>none
theorem O9 {mem:Nat->Option (List AC)} {ex:List (Nat×Nat)} : ∀ {ns:List Nat} {outs:List AP},Dk mem ex ns=some outs->outs.length=ns.length /\
 (∀ n x,lk ns outs n=some x -> ∃ j cs,cN (swp ex) n=some j/\mem j=some cs/\jI ex cs=some x/\(j=n∨j<1000))/\(∀ n,n∈ns -> ∀ j,cN (swp ex) n=some j->mem j≠none->lk ns outs n≠none)
 | [],outs,h=>by simp only [Dk,Option.some.injEq] at h;subst h;exact ⟨rfl,(fun n x h=>by simp [lk] at h),(fun n h=>by cases h)⟩
 | m::ns,outs,h=>by
  have step : ∀ {c:AP} {l:List AP},outs=c::l->Dk mem ex ns=some l->(∀ x,c = .g x -> ∃ j cs,cN (swp ex) m=some j/\mem j=some cs/\jI ex cs=some x/\(j=m∨j<1000))->(∀ j,cN (swp ex) m=some j->mem j≠none -> ∃ x,c = .g x) ->
   outs.length=ns.length+1/\(∀ n x,lk (m::ns) outs n=some x -> ∃ j cs,cN (swp ex) n=some j/\mem j=some cs/\jI ex cs=some x/\(j=n∨j<1000))/\(∀ n,n∈m::ns -> ∀ j,cN (swp ex) n=some j->mem j≠none->lk (m::ns) outs n≠none):=by
   intro c l e hl hs hno
   subst e
   obtain ⟨q1,q2,q3⟩:=O9 hl
   refine ⟨by simp [q1],fun n x hx=> ?_,fun n hn j hj hmj=> ?_⟩
   ·simp only [lk] at hx
    split at hx
    ·rename_i hmn
     subst hmn
     cases c with
     | g y=>cases hx;exact hs _ rfl
     | c y=>cases hx
    ·exact q2 n x hx
   ·simp only [lk]
    split
    ·rename_i hmn
     subst hmn
     obtain ⟨x,rfl⟩:=hno j hj hmj
     simp
    ·rename_i hmn
     rcases List.mem_cons.1 hn with e | e
     ·exact absurd e.symm hmn
     ·exact q3 n e j hj hmj
  simp only [Dk] at h
  split at h
  ·rename_i l hl
   split at h
   ·rename_i j hj
    split at h
    ·rename_i cs hcs
     split at h
     ·rename_i x hx
      split at h
      ·rename_i hlt
       cases h
       exact step rfl hl (fun y hy=>by cases hy;exact ⟨j,cs,hj,hcs,hx,hlt⟩) (fun j' _ _=>⟨x,rfl⟩)
      ·cases h
     ·cases h
    ·rename_i hcs
     cases h
     exact step rfl hl (fun y hy=>by cases hy) (fun j' hj' hm=>by rw [hj] at hj';cases hj';exact absurd hcs hm)
   ·rename_i hj
    cases h
    exact step rfl hl (fun y hy=>by cases hy) (fun j' hj' _=>by rw [hj] at hj';cases hj')
  ·cases h
theorem aA1 : ∀ ns:List Nat,∃ K,∀ n∈ns,n<K
 | []=>⟨0,fun n h=>by cases h⟩
 | n::ns=>by
  obtain ⟨K,hK⟩:=aA1 ns
  refine ⟨max K (n+1),fun m hm=> ?_⟩
  rcases List.mem_cons.1 hm with rfl | h
  ·omega
  ·have:=hK m h;omega
def Gs (S:Nat->Prop) (μ : Nat->Nat) (ns:List Nat) (cs:List AP) (h : ∀ n∈ns,1000<=n):Cx where
 S:=S
 st:=fun n=>match lk ns cs n with | some _=>some (μ n)| none=>none
 io:=fun n hn=>by
  have:lk ns cs n=none:=by
   cases hx:lk ns cs n with
   | none=>rfl
   | some x=>exact absurd (h n (xK (by rw [hx];simp))) (by omega)
  rw [this]
 fin:=by
  obtain ⟨K,hK⟩:=aA1 ns
  refine ⟨K,fun n hn=> ?_⟩
  have:lk ns cs n=none:=by
   cases hx:lk ns cs n with
   | none=>rfl
   | some x=>exact absurd (hK n (xK (by rw [hx];simp))) (by omega)
  rw [this]
theorem aAB {S:Nat->Prop} {μ : Nat->Nat} {ns:List Nat} {cs:List AP} {h : ∀ n∈ns,1000<=n} {b:Nat} : (Gs S μ ns cs h).X b ↔ ∃ n,lk ns cs n≠none /\ μ n=b:=by
 constructor
 ·rintro ⟨n,hn⟩
  have hn:(match lk ns cs n with | some _=>some (μ n)| none=>none)=some b:=hn
  cases hx:lk ns cs n with
  | none=>rw [hx] at hn;cases hn
  | some x=>rw [hx] at hn;cases hn;exact ⟨n,by rw [hx];simp,rfl⟩
 ·rintro ⟨n,h1,rfl⟩
  refine ⟨n,?_⟩
  show (match lk ns cs n with | some _=>some (μ n)| none=>none)=some (μ n)
  cases hx:lk ns cs n with
  | none=>exact absurd hx h1
  | some x=>rfl
theorem aKJ {f:Nat} {fn:Func} {sf:SF} {args cs:List AP} {ns:List Nat} {outs l:List AP} (ex:List (Nat×Nat)) (k:Nat) (hf:P.funcs[f]? = some fn) (hchk:wK P fn sf=true) (hsp:fA P sp) (hlen:args.length<=sf.ntmps)
 (hns : ∀ n∈ns,1000<=n) (he1:nodup (ex.map (·.1))=true) (he2:nodup (ex.map (·.2))=true) (he3 : ∀ n∈ex.map (·.2),n∈ns) (he:Vb sp k sf ns ex args cs=some (.io ns outs l)):wM P f args cs ns outs l:=by
 intro S w vs μ hS hG hheld hinj hrep
 have hst:Start (Gs S μ ns cs hns) w:=⟨fun b h=>(hS b h).1,fun b h=>(hS b h).2,fun b hb=>by
  obtain ⟨n,h1,rfl⟩:=aAB.1 hb
  cases hx:lk ns cs n with
  | none=>exact absurd hx h1
  | some x=>exact (hheld n x hx).1,hG⟩
 simp only [wK,Bool.and_eq_true,beq_iff_eq,decide_eq_true_eq] at hchk
 obtain ⟨⟨⟨hn,hsmall⟩,hres⟩,hbody⟩:=hchk
 split at hbody
 ·rename_i c hc
  have hvl:vs.length=args.length:=by
   have : ∀ {L:aY} {aRR:List AP} {vs:List Value},cP L w aRR vs->aRR.length=vs.length:=by
    intro L aRR
    induction aRR with
    | nil=>intro vs h;cases vs with | nil=>rfl | cons _ _=>exact h.elim
    | cons x xs ih=>intro vs h;cases vs with | nil=>exact h.elim | cons y ys=>simp [ih h.2]
   exact (this hrep).symm
  have R:Rel (Gs S μ ns cs hns) w sf.ntmps μ (nQ args ns cs) { tmps:=vs.toArray++Array.replicate (fn.ntmps-vs.toArray.size) undef,defers:= [] } w:=by
   refine { tmp:=fun t=> ?_,mem:=fun n x h=> ?_,inj:=hinj,below:=fF.refl _ _,kS:=fun n b h hn=> ?_,defers:=rfl,size:=by simp;omega,small:=hsmall }
   ·show (match args[t]? with | some a=>AV.o a | none=> .o (.c .u)).rep _ _ _
    cases ht:args[t]? with
    | none=>trivial
    | some a=>
     obtain ⟨y,hy,hr⟩:=Li t hrep ht
     have hlt:t<vs.length:=by
      rcases Nat.lt_or_ge t vs.length with h | h
      ·exact h
      ·rw [List.getElem?_eq_none h] at hy;cases hy
     have e:(vs.toArray++Array.replicate (fn.ntmps-vs.toArray.size) undef).getD t undef=y:=by
      rw [Array.getD_eq_getD_getElem?,Array.getElem?_append_left (by simpa using hlt)]
      simp [hy]
     rw [e]
     exact hr
   ·have h:lk ns cs n=some x:=h
    obtain ⟨_,ys,zs,T,h1,h2⟩:=hheld n x h
    refine ⟨.inr ?_,ys,zs,T,h1,h2⟩
    show (match lk ns cs n with | some _=>some (μ n)| none=>none)≠none
    rw [h];simp
   ·have h:(match lk ns cs n with | some _=>some (μ n)| none=>none)=some b:=h
    cases hx:lk ns cs n with
    | none=>rw [hx] at h;cases h
    | some x=>rw [hx] at h;cases h;rfl
  have fin : ∀ {s:St},At sf ns cs ex s=some (.io ns outs l) -> ∀ {μ':Nat->Nat} {a':Act} {w':World},Rel (Gs S μ ns cs hns) w sf.ntmps μ' s a' w' ->
   a'.defers = [] /\ ∃ v,(results fn a'.tmps).run P w' = .ok v w'/\(∃ v' μ2,Ending.returned v = .returned v'/\(∀ n,lk ns cs n≠none->lk ns outs n≠none /\ μ2 n = μ n)/\(∀ n,lk ns outs n≠none->lk ns cs n=none->w.heap.size <= μ2 n) /\
    (∀ n x,lk ns outs n=some x -> ∃ (ys zs:List Value) (T:TypeId),w'.heap[μ2 n]? = some (.cells (ys++zs).toArray T (0,0))/\bE (own (cx S) μ2 (lk ns outs)) w' x ys) /\
    (∀ n m,lk ns outs n≠none->lk ns outs m≠none -> μ2 n = μ2 m->n=m)/\(mP l).rep (own (cx S) μ2 (lk ns outs)) w' v'/\fF (fun b=> ∃ n,lk ns cs n≠none /\ μ n=b) w w'):=by
   intro s ho μ' a' w' R0
   unfold At at ho
   split at ho
   ·rename_i l0 hl0
    split at ho
    ·rename_i l1 outs1 hl1 hex
     split at ho
     ·rename_i l2 hl2
      split at ho
      ·rename_i hkept
       simp only [Option.some.injEq,AV.io.injEq,true_and] at ho
       obtain ⟨rfl,rfl⟩:=ho
       have R':=R0.hY hst (uW l0++Dc s.mem ex)
       generalize s.hY (uW l0++Dc s.mem ex)=s' at R' hl1 hex hkept
       obtain ⟨us,h1,h2⟩:=Py (P:=P) R' fn.results.toList sf.res hres hl1
       obtain ⟨x1,x2,x3⟩:=O9 hex
       let μ2:Nat->Nat:=fun n=>match cN (swp ex) n with | some j=> μ' j | none=>0
       have m2 : ∀ {n j:Nat},cN (swp ex) n=some j -> μ2 n = μ' j:=fun h=>by show (match cN (swp ex) _ with | some j=> μ' j | none=>0)=_;rw [h]
       have hS2 : ∀ b,(own (cx S) μ2 (lk ns outs1)).S b->(own (Gs S μ ns cs hns) μ' s'.mem).S b:=by
        rintro b (h | ⟨n,hn,h⟩)
        ·exact .inl h
        ·cases hx:lk ns outs1 n with
         | none=>exact absurd hx hn
         | some x=>
          obtain ⟨j,c0,g1,g2,_⟩:=x2 n x hx
          exact .inr ⟨j,by rw [g2];simp,by rw [← m2 g1];exact h⟩
       have hren:uF ex (own (Gs S μ ns cs hns) μ' s'.mem) (own (cx S) μ2 (lk ns outs1)):=by
        refine ⟨fun j n h hD=> ?_,hS2⟩
        have hj:=(pC he1 he2).2 h
        exact ⟨x3 n (he3 n (List.mem_map.2 ⟨(j,n),(Bg he1).1 h,rfl⟩)) j hj hD,m2 hj⟩
       refine ⟨R'.defers,_,?_,_,μ2,rfl,fun n hn=> ?_,fun n hn hno=> ?_,fun n x hx=> ?_,fun n m hn hm hnm=> ?_,aLV (Hm (Nq hren hl2 h2)),?_⟩
       ·rw [O6 fn a',Array.mapM_eq_mapM_toList]
        simp only [Sem.run_bind,Sem.run_map]
        rw [h1]
        simp
       ·have:=List.all_eq_true.1 hkept n (xK hn)
        simp only [Bool.or_eq_true,Option.isNone_iff_eq_none,Bool.and_eq_true,beq_iff_eq] at this
        rcases this with h | ⟨h,h'⟩
        ·exact absurd h hn
        ·have hmn:s'.mem n≠none:=fun e=>by rw [e] at h';cases h'
         refine ⟨x3 n (xK hn) n h hmn,?_⟩
         rw [m2 h]
         refine R'.kS n (μ n) ?_ hmn
         show (match lk ns cs n with | some _=>some (μ n)| none=>none)=some (μ n)
         cases hx:lk ns cs n with
         | none=>exact absurd hx hn
         | some x=>rfl
       ·cases hx:lk ns outs1 n with
        | none=>exact absurd hx hn
        | some x=>
         obtain ⟨j,c0,g1,g2,g3,g4⟩:=x2 n x hx
         rw [m2 g1]
         rcases (R'.mem j c0 g2).1 with h | h
         ·exact h
         ·exfalso
          have h:(match lk ns cs j with | some _=>some (μ j)| none=>none)≠none:=h
          cases hj:lk ns cs j with
          | none=>rw [hj] at h;exact h rfl
          | some y=>
           have hjn:=hns j (xK (by rw [hj];simp))
           rcases g4 with rfl | g4
           ·rw [hno] at hj;cases hj
           ·omega
       ·obtain ⟨j,c0,g1,g2,g3,_⟩:=x2 n x hx
        obtain ⟨_,ys,zs,T,q1,q2⟩:=R'.mem j c0 g2
        exact ⟨ys,zs,T,by rw [m2 g1];exact q1,Lc hren g3 q2⟩
       ·cases hx:lk ns outs1 n with
        | none=>exact absurd hx hn
        | some x=>
         cases hy:lk ns outs1 m with
         | none=>exact absurd hy hm
         | some y=>
          obtain ⟨j,c0,g1,g2,_⟩:=x2 n x hx
          obtain ⟨j',c0',g1',g2',_⟩:=x2 m y hy
          rw [m2 g1,m2 g1'] at hnm
          have:=R'.inj j j' (by rw [g2];simp) (by rw [g2'];simp) hnm
          subst this
          have e1:=(pC he1 he2).1 g1
          have e2:=(pC he1 he2).1 g1'
          rw [e1] at e2
          cases e2;rfl
       ·have:=R'.below
        exact ⟨this.os,this.tape,this.output,this.size,fun k hk hx=>this.block k hk (fun h=>hx (aAB.1 h)),this.mJ⟩
      ·cases ho
     ·cases ho
    ·cases ho
   ·cases ho
  unfold Vb at he
  split at he
  ·cases he
  ·rename_i ax s hax hcode
   refine calls_of_wp hf hc ?_
   refine Yx hst hsp k sf.code c hbody R hcode (fun μ' a' w' R'=> ?_)
   have:=fin he R'
   cases ax with
   | n=>exact this
   | e id=>exact absurd rfl (hax id)
   | r=>exact this
  ·cases he
 ·cases hbody
end
end Go.VC
namespace Go.VC
open Go.RowKit
theorem enters {P:Program} {f:Nat} {fn:Func} (hf:P.funcs[f]? = some fn) (hn:(fn.name == "runtime.NumGoroutine")=false) (hb:fn.body.isNone=false):Enters P f:=by
 intro args w
 have h1:fn.name ≠ "runtime.NumGoroutine" := by simpa using hn
 have h2 : ¬ (fn.body.isNone=true):=by simp [hb]
 have h3:fn.body≠none:=by simpa using h2
 simp [callFunc,hf,h1,h3]
def gV:List (Nat×(List AP->Option AV))->Spec
 | [],_,_=>none
 | (g,s)::l,f,aRR=>if f=g then s aRR else gV l f aRR
def Ok (P:Program) (f:Nat) (s:List AP->Option AV):Prop:=
 ∀ aRR r,s aRR=some r->(Enters P f/\Qd P f aRR r)∨(r.uB=false/\Inline P f aRR r)∨(Enters P f/\Q0 P f aRR r)∨(Enters P f /\ ∃ args bG ns outs l,aRR=args++bG/\bG.length=ns.length/\r = .io ns outs l/\wM P f args bG ns outs l)
theorem aH {P:Program} : fA P (gV []):=fun f aRR r h=>by cases h
theorem aB {P:Program} {g:Nat} {s:List AP->Option AV} {l:List (Nat×(List AP->Option AV))} (h:Ok P g s) (hl:fA P (gV l)):fA P (gV ((g,s)::l)):=fun f aRR r hr=>by
 simp only [gV] at hr
 split at hr
 ·rename_i hfg
  subst hfg
  exact h aRR r hr
 ·exact hl f aRR r hr
theorem aOZ {P:Program} {sp:Spec} {f:Nat} {fn:Func} {sf:SF} {s:List AP->Option AV} (hf:P.funcs[f]? = some fn) (hent:Enters P f) (hchk:wK P fn sf=true) (hsp:fA P sp)
 (h : ∀ aRR r,s aRR=some r->aRR.length<=sf.ntmps /\ ∃ k,Ff sp k sf aRR=some r):Ok P f s:=fun aRR r hr=>by
 obtain ⟨h1,k,h2⟩:=h aRR r hr
 exact .inl ⟨hent,Zl k hf hchk hsp h1 h2⟩
end Go.VC
end
