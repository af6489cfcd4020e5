/- What the laws' code answers: part 13 of what the rows of this seat lean on. -/
import Derived.Test.YtfcbohachbeamaaGreatDoorM12
import Derived.Carry
import Derived.ChangeKeysEq
import Derived.Below
import Derived.Test.YtfcbohachbeamaaGreatDoorM4
set_option linter.unusedVariables false
set_option linter.unusedSimpArgs false
set_option maxHeartbeats 8000000
set_option maxRecDepth 100000
section
namespace Go.Proofs.YtfcbohachbeamaaGreatDoor.E
open Go.VC Go.RowKit Go.Maps
theorem I5 : ∀ (n:Nat) (l:List UInt8),hK n l=true -> ∀ w∈gL n l,0<=w/\w<4294967296
 | 0,_,_=>by simp [gL]
 | n+1,l,h=>by
  simp only [hK,Bool.and_eq_true,decide_eq_true_eq] at h
  intro w hw
  simp only [gL,List.mem_cons] at hw
  rcases hw with rfl | hw
  ·exact Bt (Rx _) h.1.2.2
  ·exact I5 n _ h.2 w hw
theorem S9 {l:List UInt8} {k a b:Int} {ws:List Int} (h:bB l=some (k,a,b,ws)):(k=1∨k=2∨k=3∨k=4∨k=5)/\(0<=a/\a<0xde0b6b3a7640000)/\(0<=b/\b<0xde0b6b3a7640000) /\ ∀ w∈ws,0<=w/\w<4294967296:=by
 have hnoW : ∀ w∈jC,(0:Int)<=w/\w<4294967296:=by decide
 unfold bB at h
 split at h
 ·unfold tO at h;split at h
  ·rename_i ho;cases h;exact ⟨by simp,yT ho.2.1,by decide,hnoW⟩
  ·cases h
 ·split at h
  ·unfold tO at h;split at h
   ·rename_i ho;cases h;exact ⟨by simp,yT ho.2.1,by decide,hnoW⟩
   ·cases h
  ·split at h
   ·unfold Hc at h;split at h
    ·rename_i ho;cases h;exact ⟨by simp,by decide,by decide,I5 5 _ ho.1⟩
    ·cases h
   ·split at h
    ·cases h;exact ⟨by simp,by decide,by decide,hnoW⟩
    ·unfold Ko at h;split at h
     ·rename_i ho;cases h;exact ⟨by simp,yT ho.1,yT ho.2.2.1,hnoW⟩
     ·cases h
theorem aJ2 {l:List UInt8} {k a b:Int} {ws:List Int} (h:bB l=some (k,a,b,ws)) : ∃ x0 x1 x2 x3 x4,ws = [x0,x1,x2,x3,x4]:=by
 have:=aBB h
 match ws,this with
 | [x0,x1,x2,x3,x4],_=>exact ⟨x0,x1,x2,x3,x4,rfl⟩
theorem fV.Tp {w w':World} {b m:Nat} {v:Value} (hb:Below w.heap.size w w'):fV w w' b m v:=⟨hb.os,hb.tape,hb.output,hb.size,fun k hk _ _ _=>hb.block k hk⟩
structure Av (es:List En):Prop where
 p:pE es
 la:tC es
 n:es.length<=64
theorem Av.nil:Av []:=⟨trivial,fun _=>by decide,by simp⟩
theorem Av.app {es:List En} {a b:Int} (h:Av es) (he:cQ es (a,b)):Av (es ++ [(a,b)]):=by
 obtain ⟨h1,h2,h3,h4,h5⟩:=he
 refine ⟨?_,fun _=> ?_,by simp;omega⟩
 ·rw [xT]
  refine ⟨h.p,⟨?_,?_⟩,⟨?_,?_⟩,trivial⟩<;>simp only at h2 h4 ⊢ <;> omega
 ·rw [zS];exact h4
theorem aES (b m base n:Nat) (v:Value) (T:TypeId) (r:Rd) (l:List UInt8) (at_:Int) (w:World) (G:aZ w) (R:dP w b m base n v T r) (hl:l.length<=1000000) (hn:n<maxLen) (hwa:(Lit.int .i64 at_).wf=true) (he:Av r.es) :
 Calls Tryz.prog 82 #[.pointer (some ⟨b,0,none⟩),sv l,.int .i64 at_] w fun e w'=>e = .returned (.int .i64 (bM r (bB l) at_).2)/\fV w w' b m v /\
  ((bM r (bB l) at_).2=0 -> ∃ v',dP w' b m base (n+1) v' T (bM r (bB l) at_).1/\(v'.ownBlock=v.ownBlock ∨ ∃ g,v'.ownBlock=some g/\w.heap.size<=g)):=by
 have four:(∀ s,bB l=s->(bM r s at_).2=4)->Calls Tryz.prog 82 #[.pointer (some ⟨b,0,none⟩),sv l,.int .i64 at_] w (fun e w'=>e = .returned (.int .i64 4)/\Below w.heap.size w w')->Calls Tryz.prog 82 #[.pointer (some ⟨b,0,none⟩),sv l,.int .i64 at_] w fun e w'=>e = .returned (.int .i64 (bM r (bB l) at_).2)/\fV w w' b m v /\
  ((bM r (bB l) at_).2=0 -> ∃ v',dP w' b m base (n+1) v' T (bM r (bB l) at_).1/\(v'.ownBlock=v.ownBlock ∨ ∃ g,v'.ownBlock=some g/\w.heap.size<=g)):=fun h hc=>hc.mono fun e w' ⟨h1,h2⟩=>by
  have h4:=h _ rfl
  rw [h4]
  exact ⟨h1,fV.Tp h2,fun h0=>absurd h0 (by decide)⟩
 cases hs:bB l with
 | none=>rw [← hs];exact four (fun s h=>by rw [hs] at h;subst h;rfl) (aBy b m base n v T r l at_ w G R hl hs)
 | some x=>
  obtain ⟨k,a,c,ws⟩:=x
  obtain ⟨x0,x1,x2,x3,x4,rfl⟩:=aJ2 hs
  obtain ⟨hk,⟨a0,a1⟩,⟨c0,c1⟩,-⟩:=S9 hs
  rw [← hs]
  have fin : ∀ {w':World} {e:Ending},e = .returned (.int .i64 0)/\dP w' b m base (n+1) v T (bM r (bB l) at_).1/\(bM r (bB l) at_).2=0/\fV w w' b m v->e = .returned (.int .i64 (bM r (bB l) at_).2)/\fV w w' b m v /\
   ((bM r (bB l) at_).2=0 -> ∃ v',dP w' b m base (n+1) v' T (bM r (bB l) at_).1/\(v'.ownBlock=v.ownBlock ∨ ∃ g,v'.ownBlock=some g/\w.heap.size<=g)):=fun ⟨h1,h2,h3,h4⟩=>⟨by rw [h3];exact h1,h4,fun _=>⟨v,h2,.inl rfl⟩⟩
  rcases hk with rfl | rfl | rfl | rfl | rfl
  ·exact (aKK b m base n v T r l at_ w G R hl a c x0 x1 x2 x3 x4 hs hn hwa).mono fun e w' h=>fin h
  ·by_cases h0:0<r.at_ 2
   ·exact four (fun s h=>by rw [hs] at h;subst h;simp [bM,h0]) (aI6 b m base n v T r l at_ w G R hl a c x0 x1 x2 x3 x4 hs h0)
   ·exact (aHl b m base n v T r l at_ w G R hl a c x0 x1 x2 x3 x4 hs h0 hn hwa).mono fun e w' h=>fin h
  ·by_cases h0:0<r.at_ 3
   ·exact four (fun s h=>by rw [hs] at h;subst h;simp [bM,h0]) (aLh b m base n v T r l at_ w G R hl a c x0 x1 x2 x3 x4 hs h0)
   ·exact (aHa b m base n v T r l at_ w G R hl a c x0 x1 x2 x3 x4 hs h0 hn hwa).mono fun e w' h=>fin h
  ·by_cases h0:0<r.at_ 4
   ·exact four (fun s h=>by rw [hs] at h;subst h;simp [bM,h0]) (aMu b m base n v T r l at_ w G R hl a c x0 x1 x2 x3 x4 hs h0)
   ·exact (aGF b m base n v T r l at_ w G R hl a c x0 x1 x2 x3 x4 hs h0 hn hwa).mono fun e w' h=>fin h
  ·have hen:r.es.length<=1000:=by have:=he.n;omega
   have ha:bD a:=⟨by omega,by omega⟩
   have hc:bD c:=⟨by omega,by omega⟩
   by_cases hent:cQ r.es (a,c)
   ·refine (aQp b m base n v T r l at_ w G R hl a c x0 x1 x2 x3 x4 hs hn he.p he.la hen ha hc hent hwa).mono fun e w' ⟨h1,h2,h3,h4⟩=> ?_
    exact ⟨by rw [h2];exact h1,h3,fun _=>h4⟩
   ·refine (aPw b m base n v T r l at_ w G R hl a c x0 x1 x2 x3 x4 hs hn he.p he.la hen ha hc hent hwa).mono fun e w' ⟨h1,h2,h3⟩=> ?_
    rw [h2]
    exact ⟨h1,h3,fun h=>absurd h (by decide)⟩
structure Qc (r:Rd):Prop where
 u:0<=r.u/\r.u<0xde0b6b3a7640000
 x:0<=r.x/\r.x<0xde0b6b3a7640000
 es:Av r.es
 bad:dS [] r.es=none
 ws : ∀ w∈r.ws,0<=w/\w<4294967296
theorem C2 : ∀ {pre l:List En} {e:En},dS pre l=none->cQ (pre++l) e->dS pre (l ++ [e])=none
 | pre,[],e,_,he=>by
  have he':cQ pre e:=by simpa using he
  simp [dS,he']
 | pre,x::l,e,h,he=>by
  simp only [dS] at h
  split at h
  ·rename_i hx
   have:=C2 (pre:=pre ++ [x]) (l:=l) (e:=e) h (by simpa using he)
   simp [dS,hx,this]
  ·cases h
theorem aDE {r:Rd} {l:List UInt8} {n:Int} (h:Qc r) (h0:(bM r (bB l) n).2=0):Qc (bM r (bB l) n).1:=by
 cases hs:bB l with
 | none=>rw [hs] at h0;exact absurd h0 (by simp [bM])
 | some x=>
  obtain ⟨k,a,c,ws⟩:=x
  obtain ⟨hk,ha,hc,hw⟩:=S9 hs
  rw [hs] at h0
  simp only [bM] at h0 ⊢
  split at h0
  ·cases h0
  ·rename_i h1
   rw [if_neg h1]
   split at h0
   ·rename_i h2;rw [if_pos h2];exact ⟨ha,h.x,h.es,h.bad,h.ws⟩
   ·rename_i h2;rw [if_neg h2]
    split at h0
    ·rename_i h3;rw [if_pos h3];exact ⟨h.u,ha,h.es,h.bad,h.ws⟩
    ·rename_i h3;rw [if_neg h3]
     split at h0
     ·rename_i h4;rw [if_pos h4];exact ⟨h.u,h.x,h.es,h.bad,hw⟩
     ·rename_i h4;rw [if_neg h4]
      split at h0
      ·rename_i h5;rw [if_pos h5]
       split at h0
       ·rename_i h6;rw [if_pos h6];exact ⟨h.u,h.x,h.es.app h6,C2 h.bad (by simpa using h6),h.ws⟩
       ·cases h0
      ·rename_i h5;rw [if_neg h5];exact ⟨h.u,h.x,h.es,h.bad,h.ws⟩
def nG:Rd->Nat->List (List UInt8)->Rd×Option (Nat×Int)
 | r,_,[]=>(r,none)
 | r,i,l::ls=>if (bM r (bB l) ((i:Int)+1)).2=0 then nG (bM r (bB l) ((i:Int)+1)).1 (i+1) ls else (r,some (i+1,(bM r (bB l) ((i:Int)+1)).2))
def wR:Rd:=⟨0,0,[],[0,0,0,0,0],fun _=>0⟩
abbrev uA:bC:=⟨0,0,[]⟩
def dQ (l:List UInt8):bC×Int×Int:=
 if 65536<l.length then (uA,0,2)
 else match nG wR 0 (bT l) with
  | (_,some (n,e))=>(uA,(n:Int),e)
  | (r,none)=>
   if r.at_ 2=0∨r.at_ 3=0∨r.at_ 4=0∨r.at_ 5=0 then (uA,((bT l).length:Int)+1,4)
   else if (H5.l (kX ⟨r.u,r.x,r.es⟩)).map (fun (x:Nat)=>(x:Int))=r.ws then (⟨r.u,r.x,r.es⟩,0,0) else (uA,r.at_ 4,11)
theorem Z9 {P:Program} {f:Nat} {s:List AP->Option AV} (h:Ok P f s) {xs:List AP} {r:AV} (hs:s xs=some r) (ent:Enters P f) (hr : ∀ t n,r ≠ .o (.c (.s t n 0))) (hi:r.uB=false)
 {w:World} {vs:List Value} (G:aZ w) (S:Nat->Prop) (hS : ∀ b,S b->b<w.heap.size/\NG<=b) (hrep:cP ⟨S,fun _=>0,fun _=>False⟩ w xs vs) (hrep0:cP L0 w xs vs):Calls P f vs.toArray w fun e w'=> ∃ v,e = .returned v/\r.rep ⟨S,fun _=>0,fun _=>False⟩ w' v/\Below w.heap.size w w':=by
 rcases h xs r hs with ⟨_,h⟩ | ⟨_,h⟩ | ⟨_,t,d,h,_⟩ | ⟨_,args,bG,ns,outs,l,_,_,h,_⟩
 ·exact h.2 S w vs hS G hrep
 ·obtain ⟨v,hv,_⟩:=h w vs hrep0
  rw [ent] at hv
  cases hv
 ·exact absurd h (hr t d)
 ·rw [h] at hi;cases hi
def aBa (w:World) (v:Value) (ls:List (List UInt8)) (S:Nat->Prop):Prop:=
 (v = .slice none 0 0/\ls = []) ∨ ∃ g o c,v = .slice (some ⟨g,o,none⟩) ls.length c/\ls.length<=c /\ ¬ S g/\g<w.heap.size /\ ∀ j x,ls[j]? = some x->w.cell? ⟨g,o+j,none⟩=some (sv x)
theorem aOP (l:List UInt8) (w:World) (G:aZ w) (hl:l.length<=1000000) (S:Nat->Prop) (hS : ∀ b,S b->b<w.heap.size/\NG<=b):Calls Tryz.prog 81 #[sv l] w fun e w'=>Below w.heap.size w w' /\ ∃ v,e = .returned v/\aBa w' v (bT l) S:=by
 have hs:Tg [gR l]=some (.o (Cm (bT l))):=by simp [Tg,s1,hl]
 refine (Z9 aQM hs nC.ent (fun t n h=>by unfold Cm at h;split at h<;>cases h) rfl G S hS (vs:= [sv l]) ⟨⟨rfl,rfl⟩,trivial⟩ ⟨⟨rfl,rfl⟩,trivial⟩).mono ?_
 rintro e w' ⟨v,rfl,hv,hb⟩
 refine ⟨hb,v,rfl,?_⟩
 have hv:(Cm (bT l)).rep ⟨S,fun _=>0,fun _=>False⟩ w' v:=hv
 unfold Cm at hv
 split at hv
 ·rename_i h0
  rcases hv with ⟨h1,h2⟩ | ⟨g,o,c,h1,h2,h3,h4,h5⟩
  ·exact .inl ⟨h1,h0⟩
  ·exact .inr ⟨g,o,c,by rw [h1,h0];rfl,by rw [h0];exact h2,h3,h4,fun j x hx=>by rw [h0] at hx;cases hx⟩
 ·rename_i h0
  rcases hv with ⟨h1,h2⟩ | ⟨g,o,n,c,h1,h2,h3,h4,h5,h6⟩
  ·exfalso
   apply h0
   have:=congrArg List.length h2
   simp [qS] at this
   exact this
  ·have hn:n=(bT l).length:=by
    have:=h2
    simp [qS] at this
    omega
   subst hn
   refine .inr ⟨g,o,c,h1,h3,h4,h5,fun j x hx=> ?_⟩
   obtain ⟨y,hy,hq⟩:=h6 j (.v (sv x)) (by simp [qS,hx])
   rw [hy,hq.1]
theorem Xx (l:List UInt8) (w:World):(Builtin.len_ #[9] 3 #[sv l]).run Tryz.prog w = .ok (.int .i64 l.length) w:=by
 unfold sv
 rw [run_len_string w 9 3 _ Tryz.underlying9]
 simp [ByteArray.size,goInt]
theorem aRs (l:List UInt8) (w:World) (hl:65536<l.length):Calls Tryz.prog 57 #[sv l] w fun e w'=>e = .returned (.tuple #[.agg #[.int .i64 0,.int .i64 0,.slice none 0 0],.int .i64 0,.int .i64 2])/\Below w.heap.size w w':=by
 have hl':(65536:Int)<(l.length:Int):=by omega
 have hlen:=Xx l
 generalize (l.length:Int)=n at *
 go_enter Tryz.func57,Tryz.ntmps57
 go_wp2
 refine bodyPost_ret (v:= .tuple #[.agg #[.int .i64 0,.int .i64 0,.slice none 0 0],.int .i64 0,.int .i64 2]) (by simp [results,Tryz.results57,go_sem]) rfl ⟨rfl,(Below.refl _ _).alloc (Nat.le_refl _) _⟩
structure sL (wL wr:World) (b m k:Nat) (r:Rd) (ls:List (List UInt8)):Prop where
 rd : ∃ v,dP wr b m wL.heap.size k v 157 r
 same : ∀ j,j<wL.heap.size->j≠b->j≠m->wr.heap[j]? = wL.heap[j]?
 os:wr.os=wL.os
 tape:wr.tape=wL.tape
 output:wr.output=wL.output
 run:nG wR 0 ls=nG r k (ls.drop k)
 ok:Qc r
theorem aOM {w:World} {v:Value} {ls:List (List UInt8)} {S:Nat->Prop} (h:aBa w v ls S) : ∃ A c,v = .slice A ls.length c /\ ∀ j x,ls[j]? = some x -> ∃ g o,A=some ⟨g,o,none⟩ /\ ¬ S g/\g<w.heap.size/\w.cell? ⟨g,o+j,none⟩=some (sv x):=by
 rcases h with ⟨rfl,rfl⟩ | ⟨g,o,c,rfl,h1,h2,h3,h4⟩
 ·exact ⟨none,0,rfl,fun j x hx=>by cases hx⟩
 ·exact ⟨some ⟨g,o,none⟩,c,rfl,fun j x hx=>⟨g,o,rfl,h2,h3,h4 j x hx⟩⟩
theorem aLJ {w:World} (G:aZ w):let W:=(((w.alloc (.cells #[.int .i64 0,.int .i64 0,.slice none 0 0] 24)).alloc (.map #[] 0)).alloc (.cells #[.int .i64 0,.int .i64 0,.slice none 0 0,.int .u32 0,.int .u32 0,.int .u32 0,.int .u32 0,.int .u32 0,.map (some (w.heap.size+1))] 157))
 W.heap.size=w.heap.size+3/\W.heap[w.heap.size]? = some (.cells #[.int .i64 0,.int .i64 0,.slice none 0 0] 24 (0,0))/\W.ownsMap Tryz.prog 3 (plainElem (H:=Unit) Tryz.prog 3) (w.heap.size+1) 0 (.map []) /\
  W.heap[w.heap.size+1+1]? = some (.cells #[.int .i64 0,.int .i64 0,.slice none 0 0,.int .u32 0,.int .u32 0,.int .u32 0,.int .u32 0,.int .u32 0,.map (some (w.heap.size+1))] 157 (0,0))/\Below w.heap.size w W/\aZ W:=by
 intro W
 have hB:Below w.heap.size w W:=(((Below.refl _ _).alloc (Nat.le_refl _) _).alloc (by simp) _).alloc (by simp;omega) _
 refine ⟨by simp [W],?_,?_,?_,hB,aZ.jA G hB.size (fun k hk=>hB.block k (Nat.lt_of_lt_of_le hk (aZ.le G)))⟩
 ·exact (Go.heap_alloc_old _ _ (by simp;omega)).trans ((Go.heap_alloc_old _ _ (by simp)).trans (Go.heap_alloc_new _ _))
 ·have h1:=World.ownsMap_made (H:=Unit) (w.alloc (.cells #[.int .i64 0,.int .i64 0,.slice none 0 0] 24)) Tryz.prog 3 (plainElem Tryz.prog 3)
  have h2:(w.alloc (.cells #[.int .i64 0,.int .i64 0,.slice none 0 0] 24)).heap.size=w.heap.size+1:=by simp
  rw [h2] at h1
  exact h1.alloc _
 ·have h2:((w.alloc (.cells #[.int .i64 0,.int .i64 0,.slice none 0 0] 24)).alloc (.map #[] 0)).heap.size=w.heap.size+1+1:=by simp
  rw [← h2]
  exact heap_alloc_new _ _
theorem Tf : ∀ l:List UInt8,(bT l).length<=l.length /\ ∀ x∈bT l,x.length<=l.length
 | []=>by simp [bT]
 | c::r=>by
  obtain ⟨h1,h2⟩:=Tf r
  unfold bT
  split
  ·refine ⟨by simp;omega,fun x hx=> ?_⟩
   rcases List.mem_cons.1 hx with rfl | hx
   ·simp
   ·have:=h2 x hx;simp;omega
  ·split
   ·simp
   ·rename_i y ys hy
    rw [hy] at h1 h2
    refine ⟨by simp at h1 ⊢;omega,fun x hx=> ?_⟩
    rcases List.mem_cons.1 hx with rfl | hx
    ·have:=h2 y (by simp);simp;omega
    ·have:=h2 x (by simp [hx]);simp;omega
theorem wf_i64 {n:Int} (h1 : -0x8000000000000000<=n) (h2:n<0x8000000000000000):(Lit.int .i64 n).wf=true:=by
 have hmin:IntKind.i64.min = -0x8000000000000000:=rfl
 have hmax:IntKind.i64.max=0x7fffffffffffffff:=rfl
 simp only [Lit.wf,Bool.and_eq_true,decide_eq_true_eq];omega
theorem aPd {wL wr w4:World} {b m k:Nat} {r:Rd} {ls:List (List UInt8)} {v:Value} {x:List UInt8} (I:sL wL wr b m k r ls) (R:dP wr b m wL.heap.size k v 157 r) (hx:ls[k]? = some x) (ht:fV wr w4 b m v) (h0:(bM r (bB x) ((k:Int)+1)).2=0)
 (hn : ∃ v',dP w4 b m wL.heap.size (k+1) v' 157 (bM r (bB x) ((k:Int)+1)).1/\(v'.ownBlock=v.ownBlock ∨ ∃ g,v'.ownBlock=some g/\wr.heap.size<=g)):sL wL w4 b m (k+1) (bM r (bB x) ((k:Int)+1)).1 ls:=by
 obtain ⟨v',R',-⟩:=hn
 refine ⟨⟨v',R'⟩,fun j hj h1 h2=>(ht.block j (Nat.lt_of_lt_of_le hj R.lt.2.2) h1 h2 (fun h=> ?_)).trans (I.same j hj h1 h2),ht.os.trans I.os,ht.tape.trans I.tape,ht.output.trans I.output,?_,aDE I.ok h0⟩
 ·have:=(R.row.lt j h.symm).1
  omega
 ·have hd:ls.drop k=x::ls.drop (k+1):=by
   obtain ⟨hlt,he⟩:=List.getElem?_eq_some_iff.1 hx
   rw [List.drop_eq_getElem_cons hlt,he]
  rw [I.run,hd]
  simp only [nG]
  rw [if_pos h0]
theorem aIO {wL wr:World} {b m k:Nat} {r:Rd} {ls:List (List UInt8)} {x:List UInt8} (I:sL wL wr b m k r ls) (hx:ls[k]? = some x) (h0 : ¬ (bM r (bB x) ((k:Int)+1)).2=0):nG wR 0 ls=(r,some (k+1,(bM r (bB x) ((k:Int)+1)).2)):=by
 have hd:ls.drop k=x::ls.drop (k+1):=by
  obtain ⟨hlt,he⟩:=List.getElem?_eq_some_iff.1 hx
  rw [List.drop_eq_getElem_cons hlt,he]
 rw [I.run,hd]
 simp only [nG]
 rw [if_neg h0]
structure zY (w W3 wL:World) (B0 m b:Nat) (A:Option Addr) (l:List UInt8):Prop where
 l1:l.length<=65536
 sz:W3.heap.size=B0+3
 em:m=B0+1
 eb:b=B0+2
 ng:NG<=B0
 e0:w.heap.size=B0
 gl:aZ wL
 bL:Below W3.heap.size W3 wL
 b3:Below w.heap.size w W3
 Pa:W3.heap[B0]? = some (.cells #[.int .i64 0,.int .i64 0,.slice none 0 0] 24 (0,0))
 cells : ∀ j x,(bT l)[j]? = some x -> ∃ g o,A=some ⟨g,o,none⟩ /\ ¬ (g=B0∨g=m∨g=b)/\g<wL.heap.size/\wL.cell? ⟨g,o+j,none⟩=some (sv x)
theorem aOQ {w W3 wL wr:World} {B0 m b k:Nat} {A:Option Addr} {l:List UInt8} {r:Rd} (H:zY w W3 wL B0 m b A l) (I:sL wL wr b m k r (bT l)) (hlt:k<(bT l).length) : ∃ x g o,(bT l)[k]? = some x/\A=some ⟨g,o,none⟩/\wr.cell? ⟨g,o+k,none⟩=some (sv x)/\(k:Int)<((bT l).length:Int)/\(0:Int)<=(k:Int)/\wrap64 ((k:Int)+1)=(k:Int)+1 /\
 ∃ v,dP wr b m wL.heap.size k v 157 r/\Calls Tryz.prog 82 #[.pointer (some ⟨b,0,none⟩),sv x,.int .i64 ((k:Int)+1)] wr fun e w'=>e = .returned (.int .i64 (bM r (bB x) ((k:Int)+1)).2)/\fV wr w' b m v /\
  ((bM r (bB x) ((k:Int)+1)).2=0 -> ∃ v',dP w' b m wL.heap.size (k+1) v' 157 (bM r (bB x) ((k:Int)+1)).1/\(v'.ownBlock=v.ownBlock ∨ ∃ g,v'.ownBlock=some g/\wr.heap.size<=g)):=by
 obtain ⟨⟨v,R⟩,hsame,hos,htape,hout,hrun,hok⟩:=I
 have h1:=H.l1
 have h2:=H.sz
 have h3:=H.em
 have h4:=H.eb
 have h5:=H.ng
 have h6:=aZ.le H.gl
 have h7:=H.bL.size
 obtain ⟨x,hx⟩ : ∃ x,(bT l)[k]? = some x:=⟨_,List.getElem?_eq_getElem hlt⟩
 obtain ⟨g,o,hA,hg1,hg2,hg3⟩:=H.cells k x hx
 have Gr:aZ wr:=aZ.jA H.gl (Nat.le_trans (Nat.le_refl _) R.lt.2.2) (fun j hj=>hsame j (by omega) (by omega) (by omega))
 have hll:=Tf l
 have hxl:=hll.2 x (List.mem_of_getElem? hx)
 refine ⟨x,g,o,hx,hA,?_,by omega,by omega,by simp only [wrap64];omega,v,R,aES b m wL.heap.size k v 157 r x ((k:Int)+1) wr Gr R (by omega) (by simp only [maxLen];omega) (wf_i64 (by omega) (by omega)) hok.es⟩
 exact (World.cell?_of_block (hsame g hg2 (fun h=>hg1 (.inr (.inr h))) (fun h=>hg1 (.inr (.inl h))))).trans hg3
theorem o8 {w W3 wL wr:World} {B0 m b k:Nat} {A:Option Addr} {l:List UInt8} {r:Rd} (H:zY w W3 wL B0 m b A l) (I:sL wL wr b m k r (bT l)):wr.heap[B0]? = some (.cells #[.int .i64 0,.int .i64 0,.slice none 0 0] 24 (0,0)):=by
 have h2:=H.sz
 have h3:=H.em
 have h4:=H.eb
 have h7:=H.bL.size
 exact (I.same B0 (by omega) (by omega) (by omega)).trans ((H.bL.block B0 (by omega)).trans H.Pa)
theorem Qw {w4:World} {B0:Nat} {u x v:Value} (h:w4.heap[B0]? = some (.cells #[u,x,v] 24 (0,0))) :
 w4.cell? ⟨B0,0,none⟩=some u/\w4.cell? ⟨B0,1,none⟩=some x/\w4.cell? ⟨B0,2,none⟩=some v/\w4.frozen? ⟨B0,0,none⟩=false/\w4.frozen? ⟨B0,1,none⟩=false/\w4.frozen? ⟨B0,2,none⟩=false:=by
 refine ⟨?_,?_,?_,?_,?_,?_⟩
 ·unfold World.cell?;rw [h];rfl
 ·unfold World.cell?;rw [h];rfl
 ·unfold World.cell?;rw [h];rfl
 ·unfold World.frozen?;rw [h];rfl
 ·unfold World.frozen?;rw [h];rfl
 ·unfold World.frozen?;rw [h];rfl
theorem aLK {w W3 wL wr w4:World} {B0 m b k:Nat} {A:Option Addr} {l:List UInt8} {r:Rd} {v:Value} (H:zY w W3 wL B0 m b A l) (I:sL wL wr b m k r (bT l)) (R:dP wr b m wL.heap.size k v 157 r) (ht:fV wr w4 b m v):w4.heap[B0]? = some (.cells #[.int .i64 0,.int .i64 0,.slice none 0 0] 24 (0,0)):=by
 have h2:=H.sz
 have h3:=H.em
 have h4:=H.eb
 have h7:=H.bL.size
 have h8:=R.lt
 refine (ht.block B0 (by omega) (by omega) (by omega) (fun h=> ?_)).trans (o8 H I)
 have:=(R.row.lt B0 h.symm).1
 omega
theorem P1 {w W3 wL wr:World} {B0 m b k:Nat} {A:Option Addr} {l:List UInt8} {r:Rd} (H:zY w W3 wL B0 m b A l) (I:sL wL wr b m k r (bT l)):Below w.heap.size w wr:=by
 obtain ⟨⟨v,R⟩,hsame,hos,htape,hout,hrun,hok⟩:=I
 have h2:=H.sz
 have h3:=H.em
 have h4:=H.eb
 have h5:=H.e0
 have h7:=H.bL.size
 have h8:=R.lt
 exact ⟨hos.trans (H.bL.os.trans H.b3.os),htape.trans (H.bL.tape.trans H.b3.tape),hout.trans (H.bL.output.trans H.b3.output),by omega,fun j hj=>(hsame j (by omega) (by omega) (by omega)).trans ((H.bL.block j (by omega)).trans (H.b3.block j hj))⟩
theorem aC9 {w W3 wL wr w4:World} {B0 m b k:Nat} {A:Option Addr} {l:List UInt8} {r:Rd} {v:Value} (H:zY w W3 wL B0 m b A l) (I:sL wL wr b m k r (bT l)) (R:dP wr b m wL.heap.size k v 157 r) (ht:fV wr w4 b m v):Below w.heap.size w w4:=by
 have hb:=P1 H I
 have h2:=H.sz
 have h3:=H.em
 have h4:=H.eb
 have h5:=H.e0
 have h7:=H.bL.size
 have h8:=R.lt
 refine ⟨ht.os.trans hb.os,ht.tape.trans hb.tape,ht.output.trans hb.output,Nat.le_trans hb.size ht.size,fun j hj=>(ht.block j (by omega) (by omega) (by omega) (fun h=> ?_)).trans (hb.block j hj)⟩
 have:=(R.row.lt j h.symm).1
 omega
theorem Gk {w w4:World} {B0:Nat} {zs:List Value} {o:Nat} {ys:List Value} {T:TypeId} (h:Below w.heap.size w w4) (hB:w.heap.size<=B0) (hh:w4.heap[B0]? = some (.cells ys.toArray T (0,0))) (ho:o+zs.length<=ys.length):Below w.heap.size w (w4.setCells B0 o zs):=by
 obtain ⟨q1,q2,q3,q4⟩:=qG zs B0 o w4 ys T hh ho
 exact ⟨q4.os.trans h.os,q4.tape.trans h.tape,q4.output.trans h.output,by rw [q3];exact h.size,fun j hj=>(q2 j (by omega)).trans (h.block j hj)⟩
theorem aIt {w W3 wL:World} {B0 m b:Nat} {A:Option Addr} {l:List UInt8} (H:zY w W3 wL B0 m b A l) (hmap:W3.ownsMap Tryz.prog 3 (plainElem (H:=Unit) Tryz.prog 3) m 0 (.map []))
 (hrd:W3.heap[b]? = some (.cells #[.int .i64 0,.int .i64 0,.slice none 0 0,.int .u32 0,.int .u32 0,.int .u32 0,.int .u32 0,.int .u32 0,.map (some m)] 157 (0,0))):sL wL wL b m 0 wR (bT l):=by
 have h2:=H.sz
 have h3:=H.em
 have h4:=H.eb
 have h5:=H.ng
 have h7:=H.bL.size
 have hgL:W3.grownBy wL none:=⟨H.bL.os,H.bL.tape,H.bL.output,H.bL.size,fun k hk _=>H.bL.block k hk⟩
 exact ⟨⟨.slice none 0 0,(H.bL.block b (by omega)).trans hrd,⟨.map [],hmap.kept hgL (by simp),fun k=>rfl⟩,World.ownsRow_nil _ _ _ _,rfl,by omega,by omega⟩,fun j _ _ _=>rfl,rfl,rfl,rfl,rfl,⟨by decide,by decide,Av.nil,rfl,by decide⟩⟩
theorem aCl {w W3 wL wr:World} {B0 m b k:Nat} {A:Option Addr} {l:List UInt8} {r:Rd} (H:zY w W3 wL B0 m b A l) (I:sL wL wr b m k r (bT l)) (hk : ¬ k<(bT l).length) {W:World} {o:Obj} (hW:W=wr.alloc o) :
 nG wR 0 (bT l)=(r,none)/\wrap64 (((bT l).length:Int)+1)=((bT l).length:Int)+1/\Below w.heap.size w W/\W.heap[B0]? = some (.cells #[.int .i64 0,.int .i64 0,.slice none 0 0] 24 (0,0))/\W.cell? ⟨b,8,none⟩=some (.map (some m))/\aZ W /\
 (∀ i:Int,(Lit.int .i64 i).wf=true -> ∀ j,(Instr.lookup 155 (.map (some m)) (.int .i64 i) false).run Tryz.prog (W.drewN j) = .ok (.int .i64 (r.at_ i)) (W.drewN j)) /\ ∃ v,dP wr b m wL.heap.size k v 157 r/\Below wr.heap.size wr W/\W.ownsRow wL.heap.size 51 2 v r.es.length (bR r.es) /\
  W.heap[b]? = some (.cells (.int .i64 r.u :: .int .i64 r.x::v::(eF r.ws ++ [.map (some m)])).toArray 157 (0,0))/\Qc r/\r.ws.length=5/\B0<wL.heap.size:=by
 have hB:=P1 H I
 have hres:=o8 H I
 have h1:=H.l1
 have h2:=H.sz
 have h3:=H.em
 have h4:=H.eb
 have h5:=H.ng
 have h6:=H.e0
 have h7:=H.bL.size
 have hll:=Tf l
 obtain ⟨⟨v,R⟩,hsame,hos,htape,hout,hrun,hok⟩:=I
 have h8:=R.lt
 have hGr:aZ wr:=aZ.jA H.gl h8.2.2 (fun j hj=>hsame j (by have:=aZ.le H.gl;omega) (by omega) (by omega))
 have hbW:Below wr.heap.size wr W:=by rw [hW];exact (Below.refl _ _).alloc (Nat.le_refl _) _
 obtain ⟨q1,q2,q3,q4,q5,q6,q7⟩:=vX R (Below.refl _ _) o hW
 refine ⟨?_,by simp only [wrap64];omega,?_,(hbW.block B0 (by omega)).trans hres,q2,aZ.jA hGr hbW.size (fun j hj=>hbW.block j (Nat.lt_of_lt_of_le hj (aZ.le hGr))),q5,v,R,hbW,q4,q1,hok,R.len,by omega⟩
 ·rw [hrun,List.drop_eq_nil_of_le (by omega)]
  rfl
 ·rw [hW];exact hB.alloc hB.size _
theorem aDx : ∃ i0,Tryz.prog.info? 75=some i0:=by
 have h:(Tryz.prog.info? 75).isSome=true:=by kernel_rfl
 exact Option.isSome_iff_exists.1 h
theorem aKW:Tryz.prog.cellsOf 75=1:=by kernel_rfl
theorem aLO (w:World) (x0 x1 x2 x3 x4 y0 y1 y2 y3 y4:Int):(Op.equal 107 (.agg #[.int .u32 x0,.int .u32 x1,.int .u32 x2,.int .u32 x3,.int .u32 x4]) (.agg #[.int .u32 y0,.int .u32 y1,.int .u32 y2,.int .u32 y3,.int .u32 y4])).run Tryz.prog w = .ok (x0==y0&&(x1==y1&&(x2==y2&&(x3==y3&&x4==y4)))) w:=by
 obtain ⟨i0,hi⟩:=aDx
 unfold Op.equal Op.maxDepth
 rw [run_equalIn_array w 9999 _ _ Tryz.underlying107 hi,aKW]
 have pe : ∀ (a b:Int) ,(Op.equalIn 9999 75 (.int .u32 a) (.int .u32 b)).run Tryz.prog w = .ok (a==b) w:=fun a b=>by
  exact run_equalIn_int w 9998 75 .u32 .u32 a b Tryz.underlying75
 have px : ∀ (zs:Array Value) (i:Nat) (x:Int),zs[i]? = some (.int .u32 x)->(Go.part 75 zs (i*1)).run Tryz.prog w = .ok (.int .u32 x) w:=fun zs i x h=>by
  have h':zs[i]?.getD undef = .int .u32 x:=by rw [h];rfl
  simp [Go.part,isAgg,run_underlying Tryz.underlying75,Nat.mul_one,h]
 have hX0:(#[.int .u32 x0,.int .u32 x1,.int .u32 x2,.int .u32 x3,.int .u32 x4]:Array Value)[0]? = some (.int .u32 x0):=rfl
 have hX1:(#[.int .u32 x0,.int .u32 x1,.int .u32 x2,.int .u32 x3,.int .u32 x4]:Array Value)[1]? = some (.int .u32 x1):=rfl
 have hX2:(#[.int .u32 x0,.int .u32 x1,.int .u32 x2,.int .u32 x3,.int .u32 x4]:Array Value)[2]? = some (.int .u32 x2):=rfl
 have hX3:(#[.int .u32 x0,.int .u32 x1,.int .u32 x2,.int .u32 x3,.int .u32 x4]:Array Value)[3]? = some (.int .u32 x3):=rfl
 have hX4:(#[.int .u32 x0,.int .u32 x1,.int .u32 x2,.int .u32 x3,.int .u32 x4]:Array Value)[4]? = some (.int .u32 x4):=rfl
 have hY0:(#[.int .u32 y0,.int .u32 y1,.int .u32 y2,.int .u32 y3,.int .u32 y4]:Array Value)[0]? = some (.int .u32 y0):=rfl
 have hY1:(#[.int .u32 y0,.int .u32 y1,.int .u32 y2,.int .u32 y3,.int .u32 y4]:Array Value)[1]? = some (.int .u32 y1):=rfl
 have hY2:(#[.int .u32 y0,.int .u32 y1,.int .u32 y2,.int .u32 y3,.int .u32 y4]:Array Value)[2]? = some (.int .u32 y2):=rfl
 have hY3:(#[.int .u32 y0,.int .u32 y1,.int .u32 y2,.int .u32 y3,.int .u32 y4]:Array Value)[3]? = some (.int .u32 y3):=rfl
 have hY4:(#[.int .u32 y0,.int .u32 y1,.int .u32 y2,.int .u32 y3,.int .u32 y4]:Array Value)[4]? = some (.int .u32 y4):=rfl
 generalize (#[.int .u32 x0,.int .u32 x1,.int .u32 x2,.int .u32 x3,.int .u32 x4]:Array Value)=X at *
 generalize (#[.int .u32 y0,.int .u32 y1,.int .u32 y2,.int .u32 y3,.int .u32 y4]:Array Value)=Y at *
 simp only [List.range,List.range.loop,Op.eqItems,Sem.run_bind,px X 0 x0 hX0,px Y 0 y0 hY0,Result.andThen_ok,pe]
 cases h0:(x0==y0)
 ·simp
 simp only [Bool.not_true,Bool.false_eq_true,if_false,Sem.run_bind,px X 1 x1 hX1,px Y 1 y1 hY1,Result.andThen_ok,pe,Bool.true_and]
 cases h1:(x1==y1)
 ·simp
 simp only [Bool.not_true,Bool.false_eq_true,if_false,Sem.run_bind,px X 2 x2 hX2,px Y 2 y2 hY2,Result.andThen_ok,pe,Bool.true_and]
 cases h2:(x2==y2)
 ·simp
 simp only [Bool.not_true,Bool.false_eq_true,if_false,Sem.run_bind,px X 3 x3 hX3,px Y 3 y3 hY3,Result.andThen_ok,pe,Bool.true_and]
 cases h3:(x3==y3)
 ·simp
 simp only [Bool.not_true,Bool.false_eq_true,if_false,Sem.run_bind,px X 4 x4 hX4,px Y 4 y4 hY4,Result.andThen_ok,pe,Bool.true_and]
 cases h4:(x4==y4)<;>simp
theorem aGn (w:World) (x0 x1 x2 x3 x4 y0 y1 y2 y3 y4:Int):(binOp .neq 107 (.agg #[.int .u32 x0,.int .u32 x1,.int .u32 x2,.int .u32 x3,.int .u32 x4]) (.agg #[.int .u32 y0,.int .u32 y1,.int .u32 y2,.int .u32 y3,.int .u32 y4])).run Tryz.prog w = .ok (.bool (decide (¬ [x0,x1,x2,x3,x4] = [y0,y1,y2,y3,y4]))) w:=by
 have hb:(x0==y0&&(x1==y1&&(x2==y2&&(x3==y3&&x4==y4))))=decide ([x0,x1,x2,x3,x4] = [y0,y1,y2,y3,y4]):=by rw [Bool.eq_iff_iff];simp
 have h:=aLO w x0 x1 x2 x3 x4 y0 y1 y2 y3 y4
 rw [hb] at h
 simp only [binOp,Sem.run_bind,h,Result.andThen_ok,Sem.run_pure,decide_not]
theorem X2 {W:World} {b m:Nat} {u x s0 s1 s2 s3 s4:Int} {v:Value} {T:TypeId} (h:W.heap[b]? = some (.cells (.int .i64 u :: .int .i64 x::v::(eF [s0,s1,s2,s3,s4] ++ [.map (some m)])).toArray T (0,0))) :
 W.cell? ⟨b,0,none⟩=some (.int .i64 u)/\W.cell? ⟨b,1,none⟩=some (.int .i64 x)/\W.cell? ⟨b,2,none⟩=some v/\W.cell? ⟨b,3,none⟩=some (.int .u32 s0)/\W.cell? ⟨b,4,none⟩=some (.int .u32 s1)/\W.cell? ⟨b,5,none⟩=some (.int .u32 s2)/\W.cell? ⟨b,6,none⟩=some (.int .u32 s3)/\W.cell? ⟨b,7,none⟩=some (.int .u32 s4)/\W.cell? ⟨b,8,none⟩=some (.map (some m)):=by
 refine ⟨?_,?_,?_,?_,?_,?_,?_,?_,?_⟩<;>(unfold World.cell?;rw [h];rfl)
theorem aCP (u x:Int) (es:List En) (ev:Value) (base:Nat) (e:TypeId) (w:World) (G:aZ w) (hrow:w.ownsRow base e 2 ev es.length (bR es)) (hu:bD u) (hx:bD x) (hp:pE es) (S:H5) (hS:kX ⟨u,x,es⟩=S) :
 Calls Tryz.prog 83 #[.agg #[.int .i64 u,.int .i64 x,ev]] w fun r w'=>r = .returned (.agg #[.int .u32 (S.a:Int),.int .u32 (S.b:Int),.int .u32 (S.c:Int),.int .u32 (S.d:Int),.int .u32 (S.e:Int)])/\Below w.heap.size w w':=by
 have hs:Rw [.g [.v (.int .i64 u),.v (.int .i64 x),.q 2 (qE es)]]=some (.o (.g (S.cells .u32))):=by
  obtain ⟨u1,u2⟩:=hu
  obtain ⟨x1,x2⟩:=hx
  simp [Rw,s1,hp,hS,u1,u2,x1,x2]
 refine (Qz aGz hs Az.ent (fun t n h=>by cases h) rfl G (vs:= [.agg #[.int .i64 u,.int .i64 x,ev]]) ⟨⟨[.int .i64 u,.int .i64 x,ev],rfl,⟨rfl,rfl⟩,⟨rfl,rfl⟩,Zv hrow,trivial⟩,trivial⟩).mono ?_
 rintro r w' ⟨v,rfl,hv,hb⟩
 refine ⟨?_,hb⟩
 obtain ⟨ys,rfl,h⟩:=hv
 rcases ys with _ | ⟨y0,_ | ⟨y1,_ | ⟨y2,_ | ⟨y3,_ | ⟨y4,_ | ⟨y5,ys⟩⟩⟩⟩⟩⟩
 ·exact h.elim
 ·exact h.2.elim
 ·exact h.2.2.elim
 ·exact h.2.2.2.elim
 ·exact h.2.2.2.2.elim
 ·obtain ⟨h0,h1,h2,h3,h4,-⟩:=h
  rw [h0.1,h1.1,h2.1,h3.1,h4.1]
 ·exact h.2.2.2.2.2.elim
theorem aLl {b m base n:Nat} {v:Value} {T:TypeId} {r:Rd} {w w5:World} (R:dP w b m base n v T r) (hb:Below w.heap.size w w5) {k:Int} (hk:(Lit.int .i64 k).wf=true) (j:Nat):(Instr.lookup 155 (.map (some m)) (.int .i64 k) false).run Tryz.prog (w5.drewN j) = .ok (.int .i64 (r.at_ k)) (w5.drewN j):=by
 obtain ⟨D,hD,hA⟩:=R.map
 have hDW:w5.ownsMap Tryz.prog 3 (plainElem (H:=Unit) Tryz.prog 3) m n D:=hD.kept (row:=none) ⟨hb.os,hb.tape,hb.output,hb.size,fun k hk _=>hb.block k hk⟩ (by simp)
 have hDj:(w5.drewN j).ownsMap Tryz.prog 3 (plainElem (H:=Unit) Tryz.prog 3) m n D:=hDW
 obtain ⟨c,hrun,hat,hwc⟩:=hDj.lookup_int xJ Tryz.underlying155 Tryz.underlying3 (Sy _) (keyOf_int_mk Tryz.underlying3 hk)
 have:=hA k
 rw [this] at hat
 cases hat
 exact hrun
theorem aEk {w:World} {base n:Nat} {e:TypeId} {sz:Nat} {v:Value} {xs:List Value} (h:w.ownsRow base e sz v n xs) : ∃ A k c,v = .slice A k c:=by
 rcases h.2 with ⟨rfl,_⟩ | ⟨g,cap,cur,rfl,_⟩
 ·exact ⟨_,_,_,rfl⟩
 ·exact ⟨_,_,_,rfl⟩
theorem aLd {w:World} {base base' n:Nat} {e:TypeId} {sz:Nat} {v:Value} {xs:List Value} (h:w.ownsRow base e sz v n xs) (hb:base'<=base):w.ownsRow base' e sz v n xs:=by
 refine ⟨h.1,?_⟩
 rcases h.2 with h2 | ⟨g,cap,cur,h1,h2,h3⟩
 ·exact .inl h2
 ·exact .inr ⟨g,cap,cur,h1,Nat.le_trans hb h2,h3⟩
theorem aQZ {w W w5:World} {base n B0:Nat} {v:Value} {es:List En} {zs:List Value} {u x y:Value} (h:W.ownsRow base 51 2 v n (bR es)) (hb:Below W.drew.heap.size W.drew w5) (hB:B0<base) (hres:w5.heap[B0]? = some (.cells #[u,x,y] 24 (0,0))) (hz:zs.length=3) (hw:w.heap.size<=base) :
 (w5.setCells B0 0 zs).ownsRow w.heap.size 51 2 v n (bR es):=by
 obtain ⟨q1,q2,q3,q4⟩:=qG zs B0 0 w5 [u,x,y] 24 hres (by simp;omega)
 have h1:w5.ownsRow base 51 2 v n (bR es):=World.ownsRow.kept (w:=W.drew) (row:=none) h ⟨hb.os,hb.tape,hb.output,hb.size,fun k hk _=>hb.block k hk⟩ (by cases v.ownBlock<;>simp)
 refine aLd (h1.kept (row:=some B0) ⟨q4.os,q4.tape,q4.output,Nat.le_of_eq q3.symm,fun k _ hk=>q2 k (by simpa using hk)⟩ ?_) hw
 cases hv:v.ownBlock with
 | none=>exact .inl rfl
 | some k=>
  right
  have:=(h.lt k hv).1
  simp;omega
theorem R3 {w W w5:World} {B0:Nat} {zs:List Value} {u x y:Value} (hBW:Below w.heap.size w W) (hb:Below W.drew.heap.size W.drew w5) (hB:w.heap.size<=B0) (hres:w5.heap[B0]? = some (.cells #[u,x,y] 24 (0,0))) (hz:zs.length=3):Below w.heap.size w (w5.setCells B0 0 zs):=
 Gk (ys:= [u,x,y]) (hBW.trans ((⟨hb.os,hb.tape,hb.output,hb.size,hb.block⟩:Below W.heap.size W w5).mono hBW.size)) hB hres (by simp;omega)
theorem World.aFi (w:World):w.drewN 1=w.drew:=rfl
def Hid (p:Prop):Prop:=p
theorem Hid.out {p:Prop} (h:Hid p):p:=h
theorem aCf {b m base n B0:Nat} {v:Value} {T:TypeId} {r:Rd} {w W w5:World} (R:dP w b m base n v T r) (hbW:Below w.heap.size w W) (hb:Below W.drew.heap.size W.drew w5) (hres:w5.heap[B0]? = some (.cells #[.int .i64 0,.int .i64 0,.slice none 0 0] 24 (0,0))) (hB:m≠B0) {k:Int} (hk:(Lit.int .i64 k).wf=true) :
 (Instr.lookup 155 (.map (some m)) (.int .i64 k) false).run Tryz.prog (((w5.setCell ⟨B0,0,none⟩ (.int .i64 0)).setCell ⟨B0,1,none⟩ (.int .i64 0)).setCell ⟨B0,2,none⟩ (.slice none 0 0)).drew = .ok (.int .i64 (r.at_ k)) (((w5.setCell ⟨B0,0,none⟩ (.int .i64 0)).setCell ⟨B0,1,none⟩ (.int .i64 0)).setCell ⟨B0,2,none⟩ (.slice none 0 0)).drew:=by
 obtain ⟨D,hD,hA⟩:=R.map
 obtain ⟨q1,q2,q3,q4⟩:=qG [.int .i64 0,.int .i64 0,.slice none 0 0] B0 0 w5 [.int .i64 0,.int .i64 0,.slice none 0 0] 24 hres (by simp)
 have h1:W.drew.ownsMap Tryz.prog 3 (plainElem (H:=Unit) Tryz.prog 3) m n D:=(hD.kept (w':=W) (row:=none) ⟨hbW.os,hbW.tape,hbW.output,hbW.size,fun k hk _=>hbW.block k hk⟩ (by simp))
 have h2:w5.ownsMap Tryz.prog 3 (plainElem (H:=Unit) Tryz.prog 3) m n D:=h1.kept (row:=none) ⟨hb.os,hb.tape,hb.output,hb.size,fun k hk _=>hb.block k hk⟩ (by simp)
 have h3:(w5.setCells B0 0 [.int .i64 0,.int .i64 0,.slice none 0 0]).drew.ownsMap Tryz.prog 3 (plainElem (H:=Unit) Tryz.prog 3) m n D:=h2.kept (w':=w5.setCells B0 0 [.int .i64 0,.int .i64 0,.slice none 0 0]) (row:=some B0) ⟨q4.os,q4.tape,q4.output,Nat.le_of_eq q3.symm,fun k _ hk=>q2 k (by simpa using hk)⟩ (by simpa using hB)
 obtain ⟨c,hrun,hat,hwc⟩:=h3.lookup_int xJ Tryz.underlying155 Tryz.underlying3 (Sy _) (keyOf_int_mk Tryz.underlying3 hk)
 have:=hA k
 rw [this] at hat
 cases hat
 exact hrun
theorem E9 {W W':World} {b:Nat} {o:Obj} (h:W.heap[b]? = some o) (hb:Below W.heap.size W W'):W'.heap[b]? = some o:=(hb.block b (Array.getElem?_eq_some_iff.1 h).1).trans h
theorem V8 {n k:Nat} (h:k<n) (x:Value) (hx:x = .int .i64 ((k:Int)+1)):n-(intOf x).toNat<n-(intOf (.int .i64 (k:Int))).toNat:=by
 subst hx
 simp [intOf]
 omega
theorem aGA (l:List UInt8) (w:World) (G:aZ w) (hl : ¬ 65536<l.length):Calls Tryz.prog 57 #[sv l] w fun e w'=>Below w.heap.size w w' /\ ∃ ev,e = .returned (.tuple #[.agg #[.int .i64 (dQ l).1.u,.int .i64 (dQ l).1.x,ev],.int .i64 (dQ l).2.1,.int .i64 (dQ l).2.2]) /\
 w'.ownsRow w.heap.size 51 2 ev (dQ l).1.es.length (bR (dQ l).1.es):=by
 have hl1:l.length<=1000000:=by omega
 have hl2:l.length<=65536:=by omega
 have hl' : ¬ (65536:Int)<(l.length:Int):=by omega
 have hlen:=Xx l
 have hmm:= @run_makeMap Tryz.prog
 have hst:=aLJ G
 dsimp only at hst
 have hNG:=aZ.le G
 generalize (l.length:Int)=nl at hlen hl'
 go_enter Tryz.func57,Tryz.ntmps57
 go_wp2_with fail
 generalize (((w.alloc (.cells #[.int .i64 0,.int .i64 0,.slice none 0 0] 24)).alloc (.map #[] 0)).alloc (.cells #[.int .i64 0,.int .i64 0,.slice none 0 0,.int .u32 0,.int .u32 0,.int .u32 0,.int .u32 0,.int .u32 0,.map (some (w.heap.size+1))] 157))=W3 at *
 obtain ⟨hsz,Pa,hmap,hrd,hB3,G3⟩:=hst
 generalize hB0e:w.heap.size=B0 at *
 generalize hm:B0+1=m at *
 generalize hb:m+1=b at *
 clear hlen hmm
 refine (aOP l W3 G3 hl1 (fun j=>j=B0∨j=m∨j=b) (by rintro j (rfl | rfl | rfl)<;>omega)).mono ?_
 rintro e wL ⟨hbL,lv,rfl,hLin⟩
 obtain ⟨A,c,rfl,hcells⟩:=aOM hLin
 have H:zY w W3 wL B0 m b A l:=⟨hl2,hsz,hm.symm,by rw [← hb,← hm],hNG,hB0e,aZ.jA G3 hbL.size (fun k hk=>hbL.block k (Nat.lt_of_lt_of_le hk (aZ.le G3))),hbL,by rw [hB0e];exact hB3,Pa,hcells⟩
 have I0:=aIt H hmap hrd
 clear hLin hcells hbL Pa hmap hrd hB3 G3 hsz hNG hm hb hl1 hl2
 clear hB0e
 go_wp2_with fail
 go_loopw [23] (fun i wr=> ∃ k r,k<=(bT l).length/\i = .int .i64 k/\sL wL wr b m k r (bT l)) (fun i _=>(bT l).length-(intOf i).toNat)
 case atStart=>exact ⟨0,wR,Nat.zero_le _,rfl,I0⟩
 case round=>
  obtain ⟨k,r,hk,rfl,I⟩:=hrel
  clear I0
  by_cases hlt:k<(bT l).length
  ·obtain ⟨x,g,o,hx,rfl,hgr,hlt',hk0,hw1,v,R,hAdd⟩:=aOQ H I hlt
   clear hk
   go_wp2_with (go_at_call 82;refine hAdd.mono ?_;rintro e w4 ⟨rfl,ht,hnext⟩;have hres:=aLK H I R ht;obtain ⟨r0,r1,r2,r3,r4,r5⟩:=Qw hres)
   ·have h0 : ¬ (bM r (bB x) ((k:Int)+1)).2=0:=by have h:((bM r (bB x) ((k:Int)+1)).2 != 0)=true:=by assumption
                                                  simpa using h
    have hE:=aIO I hx h0
    have hP:dQ l=(uA,(k:Int)+1,(bM r (bB x) ((k:Int)+1)).2):=by simp [dQ,hl,hE]
    refine bodyPost_ret (v:= .tuple #[.agg #[.int .i64 0,.int .i64 0,.slice none 0 0],.int .i64 ((k:Int)+1),.int .i64 (bM r (bB x) ((k:Int)+1)).2]) (by simp [results,Tryz.results57,go_sem,hw1,r0,r1,r2]) rfl ⟨?_,.slice none 0 0,by rw [hP],by rw [hP];exact World.ownsRow_nil _ _ _ _⟩
    exact Gk (zs:= [.int .i64 0,.int .i64 0,.slice none 0 0]) (o:=0) (aC9 H I R ht) (Nat.le_of_eq H.e0) hres (by simp)
   ·have h0:(bM r (bB x) ((k:Int)+1)).2=0:=by have h:((bM r (bB x) ((k:Int)+1)).2 != 0)=false:=by assumption
                                              simpa using h
    exact ⟨⟨k+1,_,by omega,by rw [hw1];simp,aPd I R hx ht h0 (hnext h0)⟩,V8 hlt _ (by rw [hw1])⟩
  ·have hlt' : ¬ (k:Int)<((bT l).length:Int):=by omega
   go_wp2_with fail
   obtain ⟨W,hW⟩ : ∃ W,W=wr.alloc (.cells #[.int .i64 2,.int .i64 3,.int .i64 4,.int .i64 5] 3):=⟨_,rfl⟩
   have y0:W.cell? ⟨wr.heap.size,0,none⟩=some (.int .i64 2):=by rw [hW,World.cell?_alloc_at _ _ _ _ rfl];rfl
   have y1:W.cell? ⟨wr.heap.size,1,none⟩=some (.int .i64 3):=by rw [hW,World.cell?_alloc_at _ _ _ _ rfl];rfl
   have y2:W.cell? ⟨wr.heap.size,2,none⟩=some (.int .i64 4):=by rw [hW,World.cell?_alloc_at _ _ _ _ rfl];rfl
   have y3:W.cell? ⟨wr.heap.size,3,none⟩=some (.int .i64 5):=by rw [hW,World.cell?_alloc_at _ _ _ _ rfl];rfl
   obtain ⟨hE,hw1,hBW,hresW,hc8,GW,hlk,v,R,hbW,hrow,hcb,hok,hw5,hB0L⟩:=aCl H I hlt hW
   rw [← hW]
   obtain ⟨r0,r1,r2,r3,r4,r5⟩:=Qw hresW
   have l2:=hlk 2 (by decide) 0
   have l3:=hlk 3 (by decide) 0
   have l4:=hlk 4 (by decide) 0
   have l5:=hlk 5 (by decide) 0
   rw [World.drewN_zero] at l2 l3 l4 l5
   clear hlk hW hk hlt
   have hP:dQ l=if r.at_ 2=0∨r.at_ 3=0∨r.at_ 4=0∨r.at_ 5=0 then (uA,((bT l).length:Int)+1,4)
    else if (H5.l (kX ⟨r.u,r.x,r.es⟩)).map (fun (x:Nat)=>(x:Int))=r.ws then (⟨r.u,r.x,r.es⟩,0,0) else (uA,r.at_ 4,11):=by simp only [dQ,hE];rw [if_neg hl]
   have herr:(r.at_ 2=0∨r.at_ 3=0∨r.at_ 4=0∨r.at_ 5=0)->dQ l=(uA,((bT l).length:Int)+1,4):=fun h=>by rw [hP,if_pos h]
   generalize r.at_ 2=a2 at *
   generalize r.at_ 3=a3 at *
   generalize hr4:r.at_ 4=a4 at *
   generalize r.at_ 5=a5 at *
   by_cases ca2:a2=0
   ·have hPE:=herr (.inl ca2)
    clear hP herr
    refine wp_loop_rounds 5 ?_
    rw [rounds_succ]
    go_wp2
    refine bodyPost_ret (v:= .tuple #[.agg #[.int .i64 0,.int .i64 0,.slice none 0 0],.int .i64 (((bT l).length:Int)+1),.int .i64 4]) (by simp [results,Tryz.results57,go_sem,hw1,r0,r1,r2]) rfl ⟨?_,.slice none 0 0,by rw [hPE],by rw [hPE];exact World.ownsRow_nil _ _ _ _⟩
    exact Gk (zs:= [.int .i64 0,.int .i64 0,.slice none 0 0]) (o:=0) hBW (Nat.le_of_eq H.e0) hresW (by simp)
   by_cases ca3:a3=0
   ·have hPE:=herr (.inr (.inl ca3))
    clear hP herr
    refine wp_loop_rounds 5 ?_
    rw [rounds_succ]
    go_wp2
    rw [rounds_succ]
    go_wp2
    refine bodyPost_ret (v:= .tuple #[.agg #[.int .i64 0,.int .i64 0,.slice none 0 0],.int .i64 (((bT l).length:Int)+1),.int .i64 4]) (by simp [results,Tryz.results57,go_sem,hw1,r0,r1,r2]) rfl ⟨?_,.slice none 0 0,by rw [hPE],by rw [hPE];exact World.ownsRow_nil _ _ _ _⟩
    exact Gk (zs:= [.int .i64 0,.int .i64 0,.slice none 0 0]) (o:=0) hBW (Nat.le_of_eq H.e0) hresW (by simp)
   by_cases ca4:a4=0
   ·have hPE:=herr (.inr (.inr (.inl ca4)))
    clear hP herr
    refine wp_loop_rounds 5 ?_
    rw [rounds_succ]
    go_wp2
    rw [rounds_succ]
    go_wp2
    rw [rounds_succ]
    go_wp2
    refine bodyPost_ret (v:= .tuple #[.agg #[.int .i64 0,.int .i64 0,.slice none 0 0],.int .i64 (((bT l).length:Int)+1),.int .i64 4]) (by simp [results,Tryz.results57,go_sem,hw1,r0,r1,r2]) rfl ⟨?_,.slice none 0 0,by rw [hPE],by rw [hPE];exact World.ownsRow_nil _ _ _ _⟩
    exact Gk (zs:= [.int .i64 0,.int .i64 0,.slice none 0 0]) (o:=0) hBW (Nat.le_of_eq H.e0) hresW (by simp)
   by_cases ca5:a5=0
   ·have hPE:=herr (.inr (.inr (.inr ca5)))
    clear hP herr
    refine wp_loop_rounds 5 ?_
    rw [rounds_succ]
    go_wp2
    rw [rounds_succ]
    go_wp2
    rw [rounds_succ]
    go_wp2
    rw [rounds_succ]
    go_wp2
    refine bodyPost_ret (v:= .tuple #[.agg #[.int .i64 0,.int .i64 0,.slice none 0 0],.int .i64 (((bT l).length:Int)+1),.int .i64 4]) (by simp [results,Tryz.results57,go_sem,hw1,r0,r1,r2]) rfl ⟨?_,.slice none 0 0,by rw [hPE],by rw [hPE];exact World.ownsRow_nil _ _ _ _⟩
    exact Gk (zs:= [.int .i64 0,.int .i64 0,.slice none 0 0]) (o:=0) hBW (Nat.le_of_eq H.e0) hresW (by simp)
   refine wp_loop_rounds 5 ?_
   rw [rounds_succ]
   go_wp2
   rw [rounds_succ]
   go_wp2
   rw [rounds_succ]
   go_wp2
   rw [rounds_succ]
   go_wp2
   rw [rounds_succ]
   go_wp2
   clear herr y0 y1 y2 y3 l2 l3 l5 r0 r1 r2 r3 r4 r5 hc8
   obtain ⟨u,x,es,ws,at_⟩:=r
   obtain ⟨s0,s1,s2,s3,s4,rfl⟩ : ∃ s0 s1 s2 s3 s4,ws = [s0,s1,s2,s3,s4]:=by
    match ws,hw5 with
    | [s0,s1,s2,s3,s4],_=>exact ⟨s0,s1,s2,s3,s4,rfl⟩
   obtain ⟨S,hS⟩ : ∃ S,kX ⟨u,x,es⟩=S:=⟨_,rfl⟩
   have hu:bD u:=⟨by have:=hok.u;simp only at this;omega,by have:=hok.u;simp only at this;omega⟩
   have hx:bD x:=⟨by have:=hok.x;simp only at this;omega,by have:=hok.x;simp only at this;omega⟩
   have hSum:=aCP u x es v wL.heap.size 51 W.drew GW hrow hu hx hok.es.p S hS
   obtain ⟨vA,vn,vc,rfl⟩:=aEk hrow
   obtain ⟨d0,d1,d2,e0,e1,e2,e3,e4,e8⟩:=X2 hcb
   have hlk5 : ∀ w5,Below W.drew.heap.size W.drew w5 -> ∀ j,(Instr.lookup 155 (.map (some m)) (.int .i64 4) false).run Tryz.prog (w5.drewN j) = .ok (.int .i64 a4) (w5.drewN j):=fun w5 hb5 j=>by
    rw [← hr4]
    exact aLl R (hbW.trans ((⟨hb5.os,hb5.tape,hb5.output,hb5.size,hb5.block⟩:Below W.heap.size W w5).mono hbW.size)) (by decide) j
   have hlk6 : ∀ w5,Below W.drew.heap.size W.drew w5->w5.heap[B0]? = some (.cells #[.int .i64 0,.int .i64 0,.slice none 0 0] 24 (0,0))->(Instr.lookup 155 (.map (some m)) (.int .i64 4) false).run Tryz.prog (((w5.setCell ⟨B0,0,none⟩ (.int .i64 0)).setCell ⟨B0,1,none⟩ (.int .i64 0)).setCell ⟨B0,2,none⟩ (.slice none 0 0)).drew = .ok (.int .i64 a4) (((w5.setCell ⟨B0,0,none⟩ (.int .i64 0)).setCell ⟨B0,1,none⟩ (.int .i64 0)).setCell ⟨B0,2,none⟩ (.slice none 0 0)).drew:=fun w5 hb5 hres5=>by
    rw [← hr4]
    exact aCf R hbW hb5 hres5 (by have:=H.em;omega) (by decide)
   obtain ⟨bq,hbq⟩ : ∃ bq,bq=decide (¬ [(S.a:Int),(S.b:Int),(S.c:Int),(S.d:Int),(S.e:Int)] = [s0,s1,s2,s3,s4]):=⟨_,rfl⟩
   have hneq : ∀ w,(binOp .neq 107 (.agg #[.int .u32 (S.a:Int),.int .u32 (S.b:Int),.int .u32 (S.c:Int),.int .u32 (S.d:Int),.int .u32 (S.e:Int)]) (.agg #[.int .u32 s0,.int .u32 s1,.int .u32 s2,.int .u32 s3,.int .u32 s4])).run Tryz.prog w = .ok (.bool bq) w:=fun w=>by rw [hbq];exact aGn w _ _ _ _ _ _ _ _ _ _
   have hPt:Hid (bq=false->dQ l=(⟨u,x,es⟩,0,0)):=fun h=>by
    rw [hbq] at h
    have h' : [(S.a:Int),(S.b:Int),(S.c:Int),(S.d:Int),(S.e:Int)] = [s0,s1,s2,s3,s4]:=by simpa using h
    rw [hP,if_neg (by omega),hS,if_pos (by simpa [H5.l] using h')]
   have hPf:Hid (bq=true->dQ l=(uA,a4,11)):=fun h=>by
    rw [hbq] at h
    have h' : ¬ [(S.a:Int),(S.b:Int),(S.c:Int),(S.d:Int),(S.e:Int)] = [s0,s1,s2,s3,s4]:=of_decide_eq_true h
    rw [hP,if_neg (by omega),hS,if_neg (fun hh=>h' (by simpa [H5.l] using hh))]
   have hwb:w.heap.size<=wL.heap.size:=by rw [H.e0];omega
   clear hu hx hok GW hw5 I R hE hbq hP
   go_region_with (go_at_call 83;refine hSum.mono ?_;rintro e w5 ⟨rfl,hb5⟩;have hcb5:=E9 (W:=W.drew) hcb hb5;obtain ⟨d0',d1',d2',e0',e1',e2',e3',e4',e8'⟩:=X2 hcb5;have hres5:=E9 (W:=W.drew) hresW hb5;obtain ⟨r0,r1,r2,r3,r4,r5⟩:=Qw hres5;have hl5:=hlk5 w5 hb5 1;rw [World.aFi] at hl5;have hl6:=hlk6 w5 hb5 hres5)
   all_goals (cases bq)
   all_goals go_wp2
   all_goals first
    | (have hPE:=hPt.out (by first | trivial | rfl)
       refine bodyPost_ret (v:= .tuple #[.agg #[.int .i64 u,.int .i64 x,.slice vA vn vc],.int .i64 0,.int .i64 0]) (by simp [results,Tryz.results57,go_sem,r0,r1,r2]) rfl ⟨?_,.slice vA vn vc,by rw [hPE],by rw [hPE];exact aQZ (zs:= [.int .i64 u,.int .i64 x,.slice vA vn vc]) hrow hb5 hB0L hres5 rfl hwb⟩
       exact R3 (zs:= [.int .i64 u,.int .i64 x,.slice vA vn vc]) hBW hb5 (Nat.le_of_eq H.e0) hres5 rfl)
    | skip
   all_goals go_region
   all_goals (try go_wp2)
   all_goals first
    | (have hPE:=hPf.out (by first | trivial | rfl)
       refine bodyPost_ret (v:= .tuple #[.agg #[.int .i64 0,.int .i64 0,.slice none 0 0],.int .i64 a4,.int .i64 11]) (by simp [results,Tryz.results57,go_sem,r0,r1,r2]) rfl ⟨?_,.slice none 0 0,by rw [hPE],by rw [hPE];exact World.ownsRow_nil _ _ _ _⟩
       exact (R3 (zs:= [.int .i64 0,.int .i64 0,.slice none 0 0]) hBW hb5 (Nat.le_of_eq H.e0) hres5 rfl).drew)
    | trace_state
end Go.Proofs.YtfcbohachbeamaaGreatDoor.E
end
section
namespace Go.VC.Tb
def dE (e:Int×Int):Int:=15020+e.1/86400
def sE (e:Int×Int):Int:=dE e*86400+e.2
def D (es:List (Int×Int)) (i:Nat):Int:=dE (es.getD i (0,0))
def O (es:List (Int×Int)) (i:Nat):Int:=(es.getD i (0,0)).2
def S (es:List (Int×Int)) (i:Nat):Int:=sE (es.getD i (0,0))
theorem Ks (es:List (Int×Int)) (i:Nat):S es i=D es i*86400+O es i:=rfl
structure Tk (es:List (Int×Int)):Prop where
 n0:0<es.length
 n1:es.length<=64
 d : ∀ i,i<es.length->15020<=D es i/\D es i<=13046262021/\(es.getD i (0,0)).1=(D es i-15020)*86400
 o : ∀ i,i<es.length->0<=O es i/\O es i<=1000
 up : ∀ i,i+1<es.length->D es i<D es (i+1)/\(O es (i+1)=O es i+1∨O es (i+1)=O es i-1)
theorem Tk.mono {es:List (Int×Int)} (h:Tk es) : ∀ {i j:Nat},i<=j->j<es.length->D es i<=D es j:=by
 intro i j hij hj
 induction j with
 | zero => have:i=0:=by omega
           subst this;exact Int.le_refl _
 | succ j ih=>
  rcases Nat.lt_or_ge j i with h1 | h1
  ·have:i=j+1:=by omega
   subst this;exact Int.le_refl _
  ·have h2:=ih h1 (by omega)
   have h3:=(h.up j hj).1
   omega
theorem Tk.lt {es:List (Int×Int)} (h:Tk es) {i j:Nat} (hij:i<j) (hj:j<es.length):D es i<D es j:=by
 have h1:=h.mono (i:=i+1) (j:=j) (by omega) hj
 have h2:=(h.up i (by omega)).1
 omega
theorem Tk.Ps {es:List (Int×Int)} (h:Tk es) : ∀ {i j:Nat},i<=j->j<es.length->S es i<=S es j:=by
 intro i j hij hj
 induction j with
 | zero => have:i=0:=by omega
           subst this;exact Int.le_refl _
 | succ j ih=>
  rcases Nat.lt_or_ge j i with h1 | h1
  ·have:i=j+1:=by omega
   subst this;exact Int.le_refl _
  ·have h2:=ih h1 (by omega)
   have h3:=h.up j hj
   simp only [Ks] at h2 ⊢
   omega
def fst (p:Nat->Prop) [DecidablePred p]:Nat->Nat
 | 0=>0
 | n+1=>if p (fst p n)/\fst p n<n then fst p n else if p n then n else n+1
theorem Au (p:Nat->Prop) [DecidablePred p] : ∀ n,fst p n<=n
 | 0=>Nat.le_refl _
 | n+1=>by
  have:=Au p n
  unfold fst
  split
  ·omega
  ·split<;>omega
theorem fst_eq {p:Nat->Prop} [DecidablePred p] {k:Nat} : ∀ {n:Nat},k<=n->(∀ i,i<k -> ¬ p i)->(∀ i,k<=i->i<n->p i)->fst p n=k
 | 0,hk,_,_=>by simp [fst];omega
 | n+1,hk,h1,h2=>by
  rcases Nat.lt_or_ge n k with h | h
  ·have e:k=n+1:=by omega
   subst e
   have h0:fst p n<=n:=Au p n
   unfold fst
   have g1 : ¬ (p (fst p n)/\fst p n<n):=fun g=>h1 _ (by omega) g.1
   have g2 : ¬ p n:=h1 n (by omega)
   simp [g1,g2]
  ·have ih:=fst_eq (n:=n) h h1 (fun i a b=>h2 i a (by omega))
   unfold fst
   rw [ih]
   have hp:=h2 k (Nat.le_refl _) (by omega)
   by_cases hkn:k<n
   ·simp [hp,hkn]
   ·have:k=n:=by omega
    subst this
    simp [hp]
def Fp (es:List (Int×Int)) (d:Int):Nat:=fst (fun i=>D es i>d) es.length
def rT (es:List (Int×Int)) (d:Int):Nat:=fst (fun i=>D es i-1≥d) es.length
def sH (es:List (Int×Int)) (s:Int):Nat:=fst (fun i=>S es i>s) es.length
def In (es:List (Int×Int)) (k:Nat) (d:Int):Prop:=k<es.length/\D es k<=d/\(k+1<es.length->d<D es (k+1))
def Ls (es:List (Int×Int)) (k:Nat) (s:Int):Prop:=k<es.length/\S es k<=s/\(k+1<es.length->s<S es (k+1))
theorem aEh {es:List (Int×Int)} (h:Tk es) {k:Nat} {d:Int} (hi:In es k d):Fp es d=k+1:=by
 obtain ⟨h1,h2,h3⟩:=hi
 refine fst_eq (by omega) (fun i hi=> ?_) (fun i h4 h5=> ?_)
 ·have:=h.mono (i:=i) (j:=k) (by omega) h1;omega
 ·have:=h.mono (i:=k+1) (j:=i) h4 h5
  have:=h3 (by omega);omega
theorem aLH {es:List (Int×Int)} (h:Tk es) {k:Nat} {d:Int} (hi:Ls es k d):sH es d=k+1:=by
 obtain ⟨h1,h2,h3⟩:=hi
 refine fst_eq (by omega) (fun i hi=> ?_) (fun i h4 h5=> ?_)
 ·have:=h.Ps (i:=i) (j:=k) (by omega) h1;omega
 ·have:=h.Ps (i:=k+1) (j:=i) h4 h5
  have:=h3 (by omega);omega
theorem aFQ {es:List (Int×Int)} (h:Tk es) {d:Int} (hi:d<S es 0):sH es d=0:=
 fst_eq (by omega) (fun i hi=>by omega) (fun i h4 h5=>by have:=h.Ps (i:=0) (j:=i) h4 h5;show S es i>d;omega)
theorem aSg {es:List (Int×Int)} (h:Tk es) {k:Nat} {d:Int} (hi:In es k d):rT es d=k+1:=by
 obtain ⟨h1,h2,h3⟩:=hi
 refine fst_eq (by omega) (fun i hi=> ?_) (fun i h4 h5=> ?_)
 ·have:=h.mono (i:=i) (j:=k) (by omega) h1;omega
 ·have:=h.mono (i:=k+1) (j:=i) h4 h5
  have:=h3 (by omega);show D es i-1≥d;omega
theorem aIJ {es:List (Int×Int)} (h:Tk es) {d:Int} (hd:D es 0<=d) : ∃ k,In es k d:=by
 have : ∀ n,n<es.length->(∃ k,In es k d)∨D es n<=d:=by
  intro n
  induction n with
  | zero=>intro _;exact .inr hd
  | succ n ih=>
   intro hn
   rcases ih (by omega) with h1 | h1
   ·exact .inl h1
   ·rcases Int.lt_or_le d (D es (n+1)) with h2 | h2
    ·exact .inl ⟨n,by omega,h1,fun _=>h2⟩
    ·exact .inr h2
 have n0:=h.n0
 rcases this (es.length-1) (by omega) with h1 | h1
 ·exact h1
 ·exact ⟨es.length-1,by omega,h1,fun h2=>by omega⟩
theorem Md {es:List (Int×Int)} (h:Tk es) {d:Int} (hd:S es 0<=d) : ∃ k,Ls es k d:=by
 have : ∀ n,n<es.length->(∃ k,Ls es k d)∨S es n<=d:=by
  intro n
  induction n with
  | zero=>intro _;exact .inr hd
  | succ n ih=>
   intro hn
   rcases ih (by omega) with h1 | h1
   ·exact .inl h1
   ·rcases Int.lt_or_le d (S es (n+1)) with h2 | h2
    ·exact .inl ⟨n,by omega,h1,fun _=>h2⟩
    ·exact .inr h2
 have n0:=h.n0
 rcases this (es.length-1) (by omega) with h1 | h1
 ·exact h1
 ·exact ⟨es.length-1,by omega,h1,fun h2=>by omega⟩
def pB (es:List (Int×Int)) (d:Int):Int:=
 if rT es d=0∨rT es d=es.length∨D es (rT es d)-1≠d then 0 else O es (rT es d)-O es (rT es d-1)
def sR (es:List (Int×Int)) (d:Int):Option Int:=if Fp es d=0 then none else some (O es (Fp es d-1))
def never:Int:=0x4000000000000000
def pV (es:List (Int×Int)) (s:Int):Option (Int×Int):=
 if sH es s=0 then none else if sH es s=es.length then some (O es (sH es s-1),never) else some (O es (sH es s-1),D es (sH es s))
theorem aKC {es:List (Int×Int)} (h:Tk es) {k:Nat} {d:Int} (hi:In es k d):pB es d=if k+1<es.length/\D es (k+1)-1=d then O es (k+1)-O es k else 0:=by
 have hk:=hi.1
 rw [pB,aSg h hi]
 by_cases h1:k+1<es.length/\D es (k+1)-1=d
 ·rw [if_neg (by omega),if_pos h1];rfl
 ·rw [if_pos (by omega),if_neg h1]
theorem aK1 {es:List (Int×Int)} (h:Tk es) {k:Nat} {d:Int} (hi:In es k d):sR es d=some (O es k):=by
 rw [sR,aEh h hi];rfl
theorem Qa {es:List (Int×Int)} (h:Tk es) {k:Nat} {s:Int} (hi:Ls es k s):pV es s=some (O es k,if k+1<es.length then D es (k+1) else never):=by
 have hk:=hi.1
 rw [pV,aLH h hi,if_neg (by omega)]
 by_cases h1:k+1<es.length
 ·rw [if_neg (by omega),if_pos h1];rfl
 ·rw [if_pos (by omega),if_neg h1];rfl
theorem aKZ {es:List (Int×Int)} (h:Tk es) {s:Int} (hi:s<S es 0):pV es s=none:=by
 rw [pV,aFQ h hi];rfl
end Go.VC.Tb
end
section
namespace Go.Proofs.YtfcbohachbeamaaGreatDoor.E
open Go.VC Go.RowKit
def cZ:List En->List Value
 | []=> []
 | e::r=> .int .i64 (Tb.dE e) :: .int .i64 e.2 :: .int .i64 (Tb.sE e)::cZ r
theorem Th : ∀ l,(cZ l).length=l.length*3
 | []=>rfl
 | e::r=>by simp [cZ,Th r];omega
theorem aAo : ∀ a b,cZ (a++b)=cZ a++cZ b
 | [],b=>rfl
 | e::r,b=>by simp [cZ,aAo r b]
theorem aLk : ∃ i0,Tryz.prog.info? 214=some i0/\i0.zero=some (.agg #[.int .i64 0,.int .i64 0,.int .i64 0])/\i0.size=3/\i0.bytes=24:=by
 have h:(Tryz.prog.info? 214).map (fun i=>(i.zero,i.size,i.bytes))=some (some (.agg #[.int .i64 0,.int .i64 0,.int .i64 0]),3,24):=by kernel_rfl
 cases hi:Tryz.prog.info? 214 with
 | none=>rw [hi] at h;cases h
 | some i=>
  rw [hi] at h
  simp only [Option.map_some,Option.some.injEq,Prod.mk.injEq] at h
  exact ⟨i,rfl,h.1,h.2.1,h.2.2⟩
def Lk (w:World) (ev:Value) (es:List En) (b:Nat):Prop:=
 ∃ A c,ev = .slice A es.length c /\ ∀ j e,es[j]? = some e -> ∃ g o,A=some ⟨g,o,none⟩/\g≠b/\g<w.heap.size/\w.cell? ⟨g,o+j*2,none⟩=some (.int .i64 e.1)/\w.cell? ⟨g,o+j*2+1,none⟩=some (.int .i64 e.2)
def kD (u x:Int) (ev c3 c4 c5 mv c7:Value) (zs:List Value):List Value:= .int .i64 u :: .int .i64 x::ev::c3::c4::c5::mv::c7::zs
structure tA (w0 wr:World) (b k:Nat) (u x:Int) (ev c3 c4 c5 c7:Value) (T:TypeId) (es:List En) (zs:List Value):Prop where
 cells : ∃ mv,wr.heap[b]? = some (.cells (kD u x ev c3 c4 c5 mv c7 zs).toArray T (0,0))/\wr.ownsRow w0.heap.size 214 3 mv k (cZ (es.take k))
 same : ∀ j,j<w0.heap.size->j≠b->wr.heap[j]? = w0.heap[j]?
 os:wr.os=w0.os
 tape:wr.tape=w0.tape
 output:wr.output=w0.output
 size:w0.heap.size<=wr.heap.size
theorem aGR {w wr:World} {b k c:Nat} {u x:Int} {A:Option Addr} {c3 c4 c5 c7:Value} {T:TypeId} {es:List En} {zs:List Value} (I:tA w wr b k u x (.slice A es.length c) c3 c4 c5 c7 T es zs) (hlt:k<es.length) (hb:b<w.heap.size)
 (hcells : ∀ j e,es[j]? = some e -> ∃ g o,A=some ⟨g,o,none⟩/\g≠b/\g<w.heap.size/\w.cell? ⟨g,o+j*2,none⟩=some (.int .i64 e.1)/\w.cell? ⟨g,o+j*2+1,none⟩=some (.int .i64 e.2)) (hr : ∀ e∈es,(0<=e.1/\e.1<=1125899906842624)/\0<=e.2/\e.2<=1000) :
 ∃ a d g o mv,es[k]? = some (a,d)/\A=some ⟨g,o,none⟩/\wr.cell? ⟨g,o+k*2,none⟩=some (.int .i64 a)/\wr.cell? ⟨g,o+k*2+1,none⟩=some (.int .i64 d)/\(k:Int)<(es.length:Int)/\(0:Int)<=(k:Int)/\wr.cell? ⟨b,6,none⟩=some mv/\wr.frozen? ⟨b,6,none⟩=false/\b<wr.heap.size/\wr.ownsRow w.heap.size 214 3 mv k (cZ (es.take k)) /\
  wr.heap[b]? = some (.cells (kD u x (.slice A es.length c) c3 c4 c5 mv c7 zs).toArray T (0,0))/\wrap64 (a.tdiv 86400)=a/86400/\wrap64 (15020+a/86400)=Tb.dE (a,d)/\IntKind.i64.wrap (Tb.dE (a,d)*86400)=Tb.dE (a,d)*86400/\IntKind.i64.wrap (Tb.dE (a,d)*86400+d)=Tb.sE (a,d):=by
 obtain ⟨⟨mv,hc,hrow⟩,hsame,_,_,_,hsz⟩:=I
 obtain ⟨⟨a,d⟩,he⟩ : ∃ e,es[k]? = some e:=⟨_,List.getElem?_eq_getElem hlt⟩
 obtain ⟨g,o,hA,h1,h2,h3,h4⟩:=hcells k (a,d) he
 obtain ⟨⟨r1,r2⟩,r3,r4⟩:=hr (a,d) (List.mem_of_getElem? he)
 simp only at r1 r2 r3 r4
 have ht:a.tdiv 86400=a/86400:=Int.tdiv_eq_ediv_of_nonneg r1
 refine ⟨a,d,g,o,mv,he,hA,(World.cell?_of_block (hsame g h2 h1)).trans h3,(World.cell?_of_block (hsame g h2 h1)).trans h4,by omega,by omega,by unfold World.cell?;rw [hc];rfl,by unfold World.frozen?;rw [hc];simp,Nat.lt_of_lt_of_le hb hsz,hrow,hc,?_,?_,?_,?_⟩
 ·rw [ht];simp only [wrap64];omega
 ·simp only [wrap64,Tb.dE];omega
 ·simp only [IntKind.wrap_i64,Tb.dE];omega
 ·simp only [IntKind.wrap_i64,Tb.sE,Tb.dE];omega
theorem aHg {w6 w7:World} {o:Obj} {row:Option Nat} {b i:Nat} {v:Value} (hg:(w6.drew.alloc o).grownBy w7 row) (z:w6.cell? ⟨b,i,none⟩=some v) (f:w6.frozen? ⟨b,i,none⟩=false) (hne:some b≠row):w7.cell? ⟨b,i,none⟩=some v/\w7.frozen? ⟨b,i,none⟩=false:=by
 have hb:b<w6.drew.heap.size:=World.block_lt_of_cell? w6 _ z
 have hblk:w7.heap[b]? = (w6.drew.alloc o).heap[b]? := hg.block b (by simp;exact Nat.lt_succ_of_lt hb) hne
 constructor
 ·rw [World.cell?_of_block (a:=⟨b,i,none⟩) hblk,World.cell?_alloc_past _ _ _ hb];exact z
 ·rw [World.frozen?_of_block (a:=⟨b,i,none⟩) hblk,World.frozen?_alloc_past _ _ _ hb];exact f
theorem aMQ {w wr W0 w7:World} {b k c g cap:Nat} {u x a d:Int} {A:Option Addr} {c3 c4 c5 c7 mv:Value} {T:TypeId} {es:List En} {zs:List Value} {o2:Obj} (hW0:Below wr.heap.size wr W0) (I:tA w wr b k u x (.slice A es.length c) c3 c4 c5 c7 T es zs) (he:es[k]? = some (a,d)) (hb:b<w.heap.size)
 (hcb:wr.heap[b]? = some (.cells (kD u x (.slice A es.length c) c3 c4 c5 mv c7 zs).toArray T (0,0))) (hrow:wr.ownsRow w.heap.size 214 3 mv k (cZ (es.take k)))
 (hown:w7.ownsRow w.heap.size 214 3 (.slice (some ⟨g,0,none⟩) (k+1) cap) (k+1) (cZ (es.take k) ++ [.int .i64 (Tb.dE (a,d)),.int .i64 d,.int .i64 (Tb.sE (a,d))])) (hg:(W0.drew.alloc o2).grownBy w7 mv.ownBlock) :
 tA w (w7.setCell ⟨b,6,none⟩ (.slice (some ⟨g,0,none⟩) (k+1) cap)) b (k+1) u x (.slice A es.length c) c3 c4 c5 c7 T es zs:=by
 have hbr:b<wr.heap.size:=(Array.getElem?_eq_some_iff.1 hcb).1
 have hbm:some b≠mv.ownBlock:=fun h=>by have:=(hrow.lt b h.symm).1;omega
 have hA:Below wr.heap.size wr (W0.drew.alloc o2):=hW0.drew.alloc hW0.size o2
 have k7 : ∀ j,j<wr.heap.size->some j≠mv.ownBlock->w7.heap[j]? = wr.heap[j]? := fun j hj hne=>(hg.block j (Nat.lt_of_lt_of_le hj hA.size) hne).trans (hA.block j hj)
 have h7:=(k7 b hbr hbm).trans hcb
 obtain ⟨q1,q2,q3,q4⟩:=qG [.slice (some ⟨g,0,none⟩) (k+1) cap] b 6 w7 _ T h7 (by simp [kD])
 have hset:w7.setCells b 6 [.slice (some ⟨g,0,none⟩) (k+1) cap]=w7.setCell ⟨b,6,none⟩ (.slice (some ⟨g,0,none⟩) (k+1) cap):=rfl
 rw [hset] at q1 q2 q3 q4
 generalize w7.setCell ⟨b,6,none⟩ (.slice (some ⟨g,0,none⟩) (k+1) cap)=W at *
 have hgw : ∀ j,some j=mv.ownBlock->w.heap.size<=j:=fun j h=>(hrow.lt j h.symm).1
 have hts:es.take (k+1)=es.take k ++ [(a,d)]:=by
  rw [List.take_add_one,he]
  rfl
 refine ⟨⟨.slice (some ⟨g,0,none⟩) (k+1) cap,q1,?_⟩,fun j hj h1=>(q2 j h1).trans ((k7 j (Nat.lt_of_lt_of_le hj I.size) (fun h=>by have:=hgw j h;omega)).trans (I.same j hj h1)),q4.os.trans (hg.os.trans (hA.os.trans I.os)),q4.tape.trans (hg.tape.trans (hA.tape.trans I.tape)),q4.output.trans (hg.output.trans (hA.output.trans I.output)),by rw [q3];exact Nat.le_trans I.size (Nat.le_trans hA.size hg.size)⟩
 rw [hts,aAo]
 refine hown.kept (row:=some b) ⟨q4.os,q4.tape,q4.output,Nat.le_of_eq q3.symm,fun j _ hj=>q2 j (by simpa using hj)⟩ (.inr ?_)
 have:=(hown.lt g rfl).1
 simp [Value.ownBlock];omega
theorem aEn (b:Nat) (u x:Int) (ev c3 c4 c5 c7:Value) (T:TypeId) (es:List En) (zs:List Value) (w:World) (hc:w.heap[b]? = some (.cells (kD u x ev c3 c4 c5 (.slice none 0 0) c7 zs).toArray T (0,0))) (hE:Lk w ev es b) (hn:es.length<=64) (hr : ∀ e∈es,(0<=e.1/\e.1<=1125899906842624)/\0<=e.2/\e.2<=1000) :
 Calls Tryz.prog 156 #[.pointer (some ⟨b,0,none⟩)] w fun e w'=>e = .returned (.tuple #[])/\tA w w' b es.length u x ev c3 c4 c5 c7 T es zs:=by
 obtain ⟨A,c,rfl,hcells⟩:=hE
 have hb:b<w.heap.size:=(Array.getElem?_eq_some_iff.1 hc).1
 have d2:w.cell? ⟨b,2,none⟩=some (.slice A es.length c):=by unfold World.cell?;rw [hc];rfl
 have I0:tA w w b 0 u x (.slice A es.length c) c3 c4 c5 c7 T es zs:=⟨⟨_,hc,World.ownsRow_nil _ _ _ _⟩,fun _ _ _=>rfl,rfl,rfl,rfl,Nat.le_refl _⟩
 clear hc
 go_enter Tryz.func156,Tryz.ntmps156
 go_wp2
 go_loopw [11] (fun i wr=> ∃ k,k<=es.length/\i = .int .i64 k/\tA w wr b k u x (.slice A es.length c) c3 c4 c5 c7 T es zs) (fun i _=>es.length-(intOf i).toNat)
 case atStart=>exact ⟨0,Nat.zero_le _,rfl,I0⟩
 case round=>
  obtain ⟨k,hk,rfl,I⟩:=hrel
  clear I0
  by_cases hlt:k<es.length
  ·obtain ⟨a,d,g,o,mv,he,rfl,ha,hd,hlt',hk0,hm6,hf6,hbr,hrow,hcb,w1,w2,w3,w4⟩:=aGR I hlt hb hcells hr
   have hkn:k<64:=by omega
   have hne:some b≠mv.ownBlock:=fun h=>by have:=(hrow.lt b h.symm).1;omega
   have hbase:w.heap.size<=wr.heap.size:=I.size
   have hw5:wrap64 ((k:Int)+1)=(k:Int)+1:=by simp only [wrap64];omega
   clear hk d2
   go_wp2
   rw [w2]
   obtain ⟨W,hW⟩ : ∃ W,W=wr.alloc (.cells #[.int .i64 a,.int .i64 d] 51):=⟨_,rfl⟩
   rw [← hW]
   have z6:W.cell? ⟨b,6,none⟩=some mv:=by rw [hW,World.cell?_alloc_past _ _ _ hbr];exact hm6
   have f6:W.frozen? ⟨b,6,none⟩=false:=by rw [hW,World.frozen?_alloc_past _ _ _ hbr];exact hf6
   have y1:W.cell? ⟨wr.heap.size,1,none⟩=some (.int .i64 d):=by rw [hW,World.cell?_alloc_at _ _ _ _ rfl];rfl
   have hrowW:W.ownsRow w.heap.size 214 3 mv k (cZ (es.take k)):=by rw [hW];exact hrow.alloc _
   obtain ⟨D1,hD1⟩ : ∃ D1,Hid (D1=Tb.dE (a,d)):=⟨_,rfl⟩
   obtain ⟨S1,hS1⟩ : ∃ S1,Hid (S1=Tb.sE (a,d)):=⟨_,rfl⟩
   rw [← hD1.out] at w2 w3 w4
   rw [← hS1.out] at w4
   rw [← hD1.out]
   have hsz:Hid (W.heap.size=wr.heap.size+1):=(show W.heap.size=wr.heap.size+1 by rw [hW];simp)
   have za:(W.alloc (.cells #[.int .i64 D1,.int .i64 d,.int .i64 S1] 214)).cell? ⟨b,6,none⟩=some mv:=by rw [World.cell?_alloc_past _ _ _ (World.block_lt_of_cell? _ _ z6)];exact z6
   have ya:(W.alloc (.cells #[.int .i64 D1,.int .i64 d,.int .i64 S1] 214)).cell? ⟨wr.heap.size,1,none⟩=some (.int .i64 d):=by rw [World.cell?_alloc_past _ _ _ (World.block_lt_of_cell? _ _ y1)];exact y1
   obtain ⟨i0,hi,hz0,hz1,hz2⟩:=aLk
   have hml:k+1<=maxLen:=by simp only [maxLen];omega
   have hbt:(k+1)*24<=140737488355328:=by omega
   have hbz:w.heap.size<=(W.alloc (.cells #[.int .i64 D1,.int .i64 d,.int .i64 S1] 214)).heap.size:=by rw [World.size_alloc];have:=hsz.out;omega
   have hWb:Below wr.heap.size wr W:=by rw [hW];exact (Below.refl _ _).alloc (Nat.le_refl _) _
   clear hW hm6 hf6 ha hd w1 w2 hcells
   go_region_law (refine step_append_lies _ rfl _ _ 210 rfl w.heap.size 214 i0 (.agg #[.int .i64 0,.int .i64 0,.int .i64 0]) 3 24 Tryz.underlying210 hi hz0 hz1 hz2 rfl (by decide) mv k (cZ (es.take k)) rfl (by first | exact hrowW.alloc _ | exact World.ownsRow.alloc (w:=W.drew) hrowW _) ⟨_,0,none⟩ 1 _ [.int .i64 D1,.int .i64 d,.int .i64 S1] rfl rfl (World.news_of_block (cs:= #[.int .i64 D1,.int .i64 d,.int .i64 S1]) (t:=214) (fr:=(0,0)) (heap_alloc_new W _)) (by intro u hu;simp at hu;rcases hu with rfl | rfl | rfl<;>rfl) (by decide) hml hbt hbz _ rfl ?_;intro g7 cap w7 hown7 hgrow7 hat7 hlt7;have hb7:=aHg hgrow7 z6 f6 hne;have hc7:=hb7.1;have hf7:=hb7.2)
   all_goals (rw [hD1.out,hS1.out] at hown7)
   all_goals (have hI:=aMQ hWb I he hb hcb hrow hown7 hgrow7)
   all_goals (clear hown7 hgrow7 hat7 hlt7 hb7 hc7 hf7)
   all_goals go_wp2
   all_goals (exact ⟨⟨k+1,by omega,by simp,hI⟩,V8 hlt _ rfl⟩)
  ·have hlt' : ¬ (k:Int)<(es.length:Int):=by omega
   obtain rfl:k=es.length:=by omega
   go_wp2
   go_end0
   exact ⟨rfl,I⟩
theorem Pp {w:World} {b:Nat} {u x:Int} {ev c3 c4 c5 mv c7:Value} {T:TypeId} {zs:List Value} (h:w.heap[b]? = some (.cells (kD u x ev c3 c4 c5 mv c7 zs).toArray T (0,0))) :
 w.cell? ⟨b,2,none⟩=some ev/\w.cell? ⟨b,3,none⟩=some c3/\w.cell? ⟨b,4,none⟩=some c4/\w.cell? ⟨b,6,none⟩=some mv/\w.cell? ⟨b,7,none⟩=some c7 /\ ∀ i,w.frozen? ⟨b,i,none⟩=false:=by
 refine ⟨?_,?_,?_,?_,?_,fun i=> ?_⟩
 ·unfold World.cell?;rw [h];rfl
 ·unfold World.cell?;rw [h];rfl
 ·unfold World.cell?;rw [h];rfl
 ·unfold World.cell?;rw [h];rfl
 ·unfold World.cell?;rw [h];rfl
 ·unfold World.frozen?;rw [h];simp
theorem aRb (b:Nat) (u x d:Int) (ev c4 c5 mv c7:Value) (T:TypeId) (zs:List Value) (w:World) (hd : ¬ d=0) (h:w.heap[b]? = some (.cells (kD u x ev (.int .u32 d) c4 c5 mv c7 zs).toArray T (0,0))) :
 Calls Tryz.prog 119 #[.pointer (some ⟨b,0,none⟩)] w fun e w'=>e = .returned mv/\w'=w:=by
 obtain ⟨k2,k3,k4,k6,k7,kf⟩:=Pp h
 have hmf : ∀ (fn:Fn) (first cap:Array Value) (w:World),(Instr.makeFunc fn first cap).run Tryz.prog w = .ok (.func fn first cap) w:=fun _ _ _ _=>rfl
 have hdo:=aFm ⟨b,3,none⟩ d hd (.func (.func 156) #[.pointer (some ⟨b,0,none⟩)] #[]) w k3
 clear h kf k2 k4 k7
 go_enter Tryz.func119,Tryz.ntmps119
 go_wp2_with (go_at_call 155;refine hdo.mono ?_;rintro e w' ⟨rfl,rfl⟩)
 go_ret
 exact ⟨rfl,rfl⟩
theorem aQi (b:Nat) (u x:Int) (ev c5 c7:Value) (T:TypeId) (es:List En) (zs:List Value) (w:World) (h:w.heap[b]? = some (.cells (kD u x ev (.int .u32 0) (.int .i32 0) c5 (.slice none 0 0) c7 zs).toArray T (0,0))) (hE:Lk w ev es b) (hn:es.length<=64) (hr : ∀ e∈es,(0<=e.1/\e.1<=1125899906842624)/\0<=e.2/\e.2<=1000) :
 Calls Tryz.prog 119 #[.pointer (some ⟨b,0,none⟩)] w fun e w'=> ∃ mv,e = .returned mv/\tA w w' b es.length u x ev (.int .u32 1) (.int .i32 0) c5 c7 T es zs/\w'.heap[b]? = some (.cells (kD u x ev (.int .u32 1) (.int .i32 0) c5 mv c7 zs).toArray T (0,0))/\w'.ownsRow w.heap.size 214 3 mv es.length (cZ es):=by
 obtain ⟨k2,k3,k4,k6,k7,kf⟩:=Pp h
 have hmf : ∀ (fn:Fn) (first cap:Array Value) (w:World),(Instr.makeFunc fn first cap).run Tryz.prog w = .ok (.func fn first cap) w:=fun _ _ _ _=>rfl
 have hb:b<w.heap.size:=(Array.getElem?_eq_some_iff.1 h).1
 obtain ⟨q1,q2,q3,q4⟩:=qG [.int .i32 1] b 4 w _ T h (by simp [kD])
 have hset:w.setCells b 4 [.int .i32 1]=w.setCell ⟨b,4,none⟩ (.int .i32 1):=rfl
 rw [hset] at q1 q2 q3 q4
 have hE1:Lk (w.setCell ⟨b,4,none⟩ (.int .i32 1)) ev es b:=by
  obtain ⟨A,c,h1,h2⟩:=hE
  refine ⟨A,c,h1,fun j e he=> ?_⟩
  obtain ⟨g,o,a1,a2,a3,a4,a5⟩:=h2 j e he
  have hg:=q2 g a2
  exact ⟨g,o,a1,a2,by rw [q3];exact a3,(World.cell?_of_block (a:=⟨g,o+j*2,none⟩) hg).trans a4,(World.cell?_of_block (a:=⟨g,o+j*2+1,none⟩) hg).trans a5⟩
 have hmake:=aEn b u x ev (.int .u32 0) (.int .i32 1) c5 c7 T es zs (w.setCell ⟨b,4,none⟩ (.int .i32 1)) q1 hE1 hn hr
 have hC:Calls Tryz.prog 156 #[.pointer (some ⟨b,0,none⟩)] (w.setCell ⟨b,3+1,none⟩ (.int .i32 1)) fun e w'=>e = .returned (.tuple #[])/\(w'.cell? ⟨b,3,none⟩=some (.int .u32 0)/\w'.cell? ⟨b,3+1,none⟩=some (.int .i32 1)/\w'.frozen? ⟨b,3,none⟩=false/\w'.frozen? ⟨b,3+1,none⟩=false)/\tA (w.setCell ⟨b,4,none⟩ (.int .i32 1)) w' b es.length u x ev (.int .u32 0) (.int .i32 1) c5 c7 T es zs:=by
  refine hmake.mono fun e w' ⟨h1,h2⟩=>⟨h1,?_,h2⟩
  obtain ⟨mv,hc,_⟩:=h2.cells
  obtain ⟨_,a3,a4,_,_,af⟩:=Pp hc
  exact ⟨a3,a4,af 3,af 4⟩
 have hdo:=aOE b 3 (.pointer (some ⟨b,0,none⟩)) w k3 k4 (kf 4) hC
 have fin : ∀ w',tA (w.setCell ⟨b,4,none⟩ (.int .i32 1)) w' b es.length u x ev (.int .u32 0) (.int .i32 1) c5 c7 T es zs -> ∃ mv,tA w ((w'.drew.setCell ⟨b,3,none⟩ (.int .u32 1)).setCell ⟨b,3+1,none⟩ (.int .i32 0)) b es.length u x ev (.int .u32 1) (.int .i32 0) c5 c7 T es zs/\((w'.drew.setCell ⟨b,3,none⟩ (.int .u32 1)).setCell ⟨b,3+1,none⟩ (.int .i32 0)).heap[b]? = some (.cells (kD u x ev (.int .u32 1) (.int .i32 0) c5 mv c7 zs).toArray T (0,0))/\((w'.drew.setCell ⟨b,3,none⟩ (.int .u32 1)).setCell ⟨b,3+1,none⟩ (.int .i32 0)).ownsRow w.heap.size 214 3 mv es.length (cZ es):=by
  intro w' hI
  obtain ⟨mv,hc,hrow⟩:=hI.cells
  have hc':w'.drew.heap[b]? = some (.cells (kD u x ev (.int .u32 0) (.int .i32 1) c5 mv c7 zs).toArray T (0,0)):=hc
  obtain ⟨p1,p2,p3,p4⟩:=qG [.int .u32 1,.int .i32 0] b 3 w'.drew _ T hc' (by simp [kD])
  have hs2:w'.drew.setCells b 3 [.int .u32 1,.int .i32 0]=(w'.drew.setCell ⟨b,3,none⟩ (.int .u32 1)).setCell ⟨b,3+1,none⟩ (.int .i32 0):=rfl
  rw [hs2] at p1 p2 p3 p4
  generalize (w'.drew.setCell ⟨b,3,none⟩ (.int .u32 1)).setCell ⟨b,3+1,none⟩ (.int .i32 0)=W at *
  have hp1:W.heap[b]? = some (.cells (kD u x ev (.int .u32 1) (.int .i32 0) c5 mv c7 zs).toArray T (0,0)):=p1
  have hts:es.take es.length=es:=List.take_of_length_le (Nat.le_refl _)
  rw [hts,q3] at hrow
  have hrowD:w'.drew.ownsRow w.heap.size 214 3 mv es.length (cZ es):=hrow
  have hrW:W.ownsRow w.heap.size 214 3 mv es.length (cZ es):=hrowD.kept (row:=some b) ⟨p4.os,p4.tape,p4.output,Nat.le_of_eq p3.symm,fun j _ hj=>p2 j (by simpa using hj)⟩ (by
   cases hv:mv.ownBlock with
   | none=>exact .inl rfl
   | some k=>
    right
    have:=(hrow.lt k hv).1
    simp;omega)
  have hsz':w.heap.size<=w'.heap.size:=by have:=hI.size;rw [q3] at this;exact this
  refine ⟨mv,⟨⟨mv,hp1,by rw [hts];exact hrW⟩,fun j hj hjb=>(p2 j hjb).trans ((hI.same j (by rw [q3];exact hj) hjb).trans (q2 j hjb)),p4.os.trans (hI.os.trans q4.os),p4.tape.trans (hI.tape.trans q4.tape),p4.output.trans (hI.output.trans q4.output),by rw [p3];exact hsz'⟩,hp1,hrW⟩
 clear h kf k2 k3 k4 k6 k7 q1 q2 q3 q4 hE1 hmake hC hE
 go_enter Tryz.func119,Tryz.ntmps119
 go_wp2_with (go_at_call 155;refine hdo.mono ?_;rintro e w2 ⟨rfl,w',hI,hw⟩;obtain ⟨mv,f1,f2,f3⟩:=fin w' hI;rw [← hw] at f1 f2 f3;clear hw;obtain ⟨_,_,_,k6,_,_⟩:=Pp f2)
 go_ret
 exact ⟨mv,rfl,f1,f2,f3⟩
end Go.Proofs.YtfcbohachbeamaaGreatDoor.E
end
