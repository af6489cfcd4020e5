/- What the laws' code answers: part 17 of what the rows of this seat lean on. -/
import Derived.Test.YtfcbohachbeamaaGreatDoorM16
import Derived.Test.YtfcbohachbeamaaGreatDoorM4
import Derived.Conc.RwLoneW
import Derived.Test.YtfcbohachbeamaaGreatDoorM12
import Derived.Test.YtfcbohachbeamaaGreatDoorM13
set_option linter.unusedVariables false
set_option linter.unusedSimpArgs false
set_option maxHeartbeats 8000000
set_option maxRecDepth 100000
section
namespace Go.Proofs.YtfcbohachbeamaaGreatDoor.E
open Go.VC Go.RowKit
theorem aCQ {on:Int} {l:Int×Int×Int} (ho : -0x8000000000000000<=on/\on<0x8000000000000000) (hl:lI l):nU.p (rZ on l).1/\0<=(rZ on l).2/\(rZ on l).2<=12:=by
 have hz:lI (0,0,0):=by decide
 have hx:=aAF l
 unfold rZ
 split
 ·exact ⟨⟨by simp,by simp,hl⟩,by simp⟩
 ·split
  ·rename_i h
   have hr:=N0 h
   refine ⟨⟨ho,?_,hz⟩,by simp⟩
   dsimp only
   split<;>omega
  ·exact ⟨⟨by simp,by simp,hz⟩,by dsimp only;omega⟩
theorem Yj (es:List En) (o:Option (List Pc)) (x:Int) (b:Bool) (t:Int):0<=(kB es o x b t).2/\(kB es o x b t).2<=12:=by
 have h1:0<=(uL es t).2/\(uL es t).2<=12:=by
  unfold uL
  split
  ·split
   ·split<;>simp
   ·simp
  ·dsimp only
   split<;>simp
 have h2 : ∀ R,0<=(vC R t).2/\(vC R t).2<=12:=by
  intro R
  have key : ∀ ps:List Pc,0<=(mV ps t).2/\(mV ps t).2<=12:=by
   intro ps
   induction ps with
   | nil=>simp [mV]
   | cons p r ih=>
    simp only [mV]
    split
    ·simp
    ·exact ih
  unfold vC
  split
  ·simp
  ·exact key R
 have h3:0<=(cL es o t).2/\(cL es o t).2<=12:=by
  unfold cL
  cases o with
  | none=>exact h1
  | some R=>
   dsimp only
   split
   ·exact h2 R
   ·exact h1
 unfold kB
 split
 ·split<;>simp
 ·exact h3
theorem Qe {es:List En} (hk:Tb.Tk es) (o:Option (List Pc)) (x:Int) (w:Int×Bool) (t:Int) {on:Int} (ho : -0x8000000000000000<=on/\on<0x8000000000000000):nU.p (an es o x w t on).1/\0<=(an es o x w t on).2/\(an es o x w t on).2<=12:=by
 have hz0:lI (0,0,0):=by decide
 have hz:nU.p (0,0,0,0,0):=⟨by decide,by decide,by decide,by decide,by decide⟩
 have hc:=Yj es o x w.2 t
 have hl:=P5 es o x w.2 t
 have hE:=L3 es t
 unfold an
 split
 ·rename_i h
  obtain ⟨-,-,h3,h4⟩:=Jb h
  split
  ·rename_i h2
   have:=Gl h2
   exact ⟨⟨ho,by dsimp only;omega,hz0⟩,by simp⟩
  ·exact ⟨hz,by simp⟩
 ·split
  ·split
   ·split
    ·split
     ·have:=aAV hk t
      exact ⟨⟨by simp,by dsimp only;omega,hz0⟩,by simp⟩
     ·exact ⟨hz,hE⟩
    ·exact aCQ ho hl
   ·exact ⟨hz,hc⟩
  ·exact ⟨hz,by simp⟩
abbrev Rs:=Int×Int×(Int×Int×Int)
abbrev Ah (r:Rs):AP:= .g [.v (.int .i64 r.1),.v (.int .i64 (aQ r.2.1)),.v (.int .u64 (aT r.2.1)),.v (.int .i64 r.2.2.1),.v (.int .i64 r.2.2.2.1),.v (.int .i64 r.2.2.2.2),.r .u8 [],.v (.int .i64 0)]
def sd (m:Mo×Int):Rs:=if m.2=0 then (0,m.1.2.1,m.1.2.2) else (m.2,0,0,0,0)
abbrev aGy:=s2 nU bF eO fun m e=> .o (Ah (sd (m,e)))
theorem Wo:Ok Tryz.prog 62 aGy:=eT (aG Tryz.func62 Ap.ent Ap.aA aH) (by simp [Ap.c]) fun m e hm he _=>by
 obtain ⟨k,n,d,s,a⟩:=m
 simp at hm he
 refine ⟨0,?_⟩
 by_cases h:e=0
 ·simp [Ap.c,he,h,sd]
 ·simp [Ap.c,he,h,sd,cE,cD]
def cv (es:List En) (o:Option (List Pc)) (x:Int) (w:Int×Bool) (m:Mo) (to:Int):Rs:=if (iA es o x w m).2=0 then sd (an es o x w (iA es o x w m).1 to) else ((iA es o x w m).2,0,0,0,0)
noncomputable abbrev aLD:=s5 pT nU bF dF hJ Cp fun w m to t c=> .io [1000,1001] [.g (aW t),.g (aK c)] [Ah (cv t.es c.2 c.1 w m to)]
theorem aMS:Ok Tryz.prog 33 aLD:=xU (aG Tryz.func33 yV.ent yV.aA (aB Sw (aB V0 (aB Wo aH)))) [1000,1001] [(1000,1000),(1001,1001)] 3 rfl rfl rfl rfl rfl (by simp [yV.c]) fun w m to t c hw hm ho ht hc _=>by
 obtain ⟨x,o⟩:=c
 obtain ⟨p,b⟩:=w
 obtain ⟨k,n,d,s,a⟩:=m
 replace ht:cC t:=ht
 replace hc:iZ (x,o):=hc
 have v1:=kC hc
 have v2:=jX hc
 simp at hw hm ho
 obtain ⟨h1,h2,h3⟩:=hm
 have hk:=iE ht
 have hr:=Wz hk o x (p,b) (k,n,d,s,a)
 have ha:=Qe hk o x (p,b) (iA t.es o x (p,b) (k,n,d,s,a)).1 ho
 obtain ⟨⟨a1,a2,a3⟩,a4⟩:=ha
 have a4' : -0x8000000000000000<=(an t.es o x (p,b) (iA t.es o x (p,b) (k,n,d,s,a)).1 to).2/\(an t.es o x (p,b) (iA t.es o x (p,b) (k,n,d,s,a)).1 to).2<0x8000000000000000:=by omega
 refine ⟨⟨_,_,rfl⟩,0,?_⟩
 by_cases h:(iA t.es o x (p,b) (k,n,d,s,a)).2=0
 ·cases o<;>simp only [aF] at v1 v2<;>simp [yV.c,bK,aK,aF,aN,ht,hw,h1,h2,h3,ho,v1,v2,cv,h,hr,a1,a2,a3,a4']
 ·cases o<;>simp only [aF] at v1 v2<;>simp [yV.c,bK,aK,aF,aN,ht,hw,h1,h2,h3,ho,v1,v2,cv,h,hr,cE,cD]
def ad (es:List En) (o:Option (List Pc)) (x:Int) (w:Int×Bool) (m:Mo) (s:Int):Rs:=
 if (iA es o x w m).2=0 then (if -0x80000000000000000000000000000000<=(iA es o x w m).1+s/\(iA es o x w m).1+s<0x80000000000000000000000000000000 then sd (an es o x w ((iA es o x w m).1+s) m.1) else (2,0,0,0,0)) else ((iA es o x w m).2,0,0,0,0)
noncomputable abbrev aEE:=s5 pT nU bN dF hJ Cp fun w m s t c=> .io [1000,1001] [.g (aW t),.g (aK c)] [Ah (ad t.es c.2 c.1 w m s)]
theorem aCE:Ok Tryz.prog 34 aEE:=xU (aG Tryz.func34 xA.ent xA.aA (aB Sw (aB V0 (aB Wo eQ)))) [1000,1001] [(1000,1000),(1001,1001)] 3 rfl rfl rfl rfl rfl (by simp [xA.c]) fun w m st t c hw hm hs ht hc _=>by
 obtain ⟨x,o⟩:=c
 obtain ⟨p,b⟩:=w
 obtain ⟨k,n,d,s,a⟩:=m
 replace ht:cC t:=ht
 replace hc:iZ (x,o):=hc
 have v1:=kC hc
 have v2:=jX hc
 simp at hw hm hs
 obtain ⟨h1,h2,h3⟩:=hm
 have hk:=iE ht
 have hr:=Wz hk o x (p,b) (k,n,d,s,a)
 have ha:=Qe hk o x (p,b) ((iA t.es o x (p,b) (k,n,d,s,a)).1+st) h1
 obtain ⟨⟨a1,a2,a3⟩,a4⟩:=ha
 have a4' : -0x8000000000000000<=(an t.es o x (p,b) ((iA t.es o x (p,b) (k,n,d,s,a)).1+st) k).2/\(an t.es o x (p,b) ((iA t.es o x (p,b) (k,n,d,s,a)).1+st) k).2<0x8000000000000000:=by omega
 refine ⟨⟨_,_,rfl⟩,0,?_⟩
 by_cases h:(iA t.es o x (p,b) (k,n,d,s,a)).2=0
 ·by_cases hf : -0x80000000000000000000000000000000<=(iA t.es o x (p,b) (k,n,d,s,a)).1+st/\(iA t.es o x (p,b) (k,n,d,s,a)).1+st<0x80000000000000000000000000000000
  ·cases o<;>simp only [aF] at v1 v2<;>simp [xA.c,bK,aK,aF,aN,ht,hw,h1,h2,h3,hs,v1,v2,ad,h,hr,hf,a1,a2,a3,a4']
  ·cases o<;>simp only [aF] at v1 v2<;>simp [xA.c,bK,aK,aF,aN,ht,hw,h1,h2,h3,hs,v1,v2,ad,h,hr,hf,cE,cD]
 ·cases o<;>simp only [aF] at v1 v2<;>simp [xA.c,bK,aK,aF,aN,ht,hw,h1,h2,h3,hs,v1,v2,ad,h,hr,cE,cD]
def df (es:List En) (o:Option (List Pc)) (x:Int) (w:Int×Bool) (m:Mo) (l:Int×Int×Int):Rs:=
 if (iA es o x w m).2=0 then (if (eX es o x w.2 l).2=0 then (if -0x80000000000000000000000000000000<=(eX es o x w.2 l).1-(iA es o x w m).1/\(eX es o x w.2 l).1-(iA es o x w m).1<0x80000000000000000000000000000000 then (0,(eX es o x w.2 l).1-(iA es o x w m).1,0,0,0) else (2,0,0,0,0)) else ((eX es o x w.2 l).2,0,0,0,0)) else ((iA es o x w m).2,0,0,0,0)
noncomputable abbrev aFM:=s5 pT nU dV dF hJ Cp fun w m l t c=> .io [1000,1001] [.g (aW t),.g (aK c)] [Ah (df t.es c.2 c.1 w m l)]
theorem aOY:Ok Tryz.prog 35 aFM:=xU (aG Tryz.func35 vV.ent vV.aA (aB Sw (aB Of (aB Wo eQ)))) [1000,1001] [(1000,1000),(1001,1001)] 3 rfl rfl rfl rfl rfl (by simp [vV.c]) fun w m l t c hw hm hl ht hc _=>by
 obtain ⟨x,o⟩:=c
 obtain ⟨p,b⟩:=w
 obtain ⟨k,n,d,s,a⟩:=m
 obtain ⟨d',s',a'⟩:=l
 replace ht:cC t:=ht
 replace hc:iZ (x,o):=hc
 have v1:=kC hc
 have v2:=jX hc
 simp at hw hm hl
 obtain ⟨h1,h2,h3⟩:=hm
 have hk:=iE ht
 have hr:=Wz hk o x (p,b) (k,n,d,s,a)
 have hq:=(Hn hk o x b (d',s',a')).1
 refine ⟨⟨_,_,rfl⟩,0,?_⟩
 by_cases h:(iA t.es o x (p,b) (k,n,d,s,a)).2=0
 ·by_cases hf:(eX t.es o x b (d',s',a')).2=0
  ·by_cases hg : -0x80000000000000000000000000000000<=(eX t.es o x b (d',s',a')).1-(iA t.es o x (p,b) (k,n,d,s,a)).1/\(eX t.es o x b (d',s',a')).1-(iA t.es o x (p,b) (k,n,d,s,a)).1<0x80000000000000000000000000000000
   ·cases o<;>simp only [aF] at v1 v2<;>simp [vV.c,bK,aK,aF,aN,ht,hw,h1,h2,h3,hl,v1,v2,df,sd,h,hr,hf,hq,hg]
   ·cases o<;>simp only [aF] at v1 v2<;>simp [vV.c,bK,aK,aF,aN,ht,hw,h1,h2,h3,hl,v1,v2,df,sd,h,hr,hf,hq,hg,cE,cD]
  ·cases o<;>simp only [aF] at v1 v2<;>simp [vV.c,bK,aK,aF,aN,ht,hw,h1,h2,h3,hl,v1,v2,df,sd,h,hr,hf,hq,cE,cD]
 ·cases o<;>simp only [aF] at v1 v2<;>simp [vV.c,bK,aK,aF,aN,ht,hw,h1,h2,h3,hl,v1,v2,df,sd,h,hr,cE,cD]
end Go.Proofs.YtfcbohachbeamaaGreatDoor.E
end
section
namespace Go.Proofs.YtfcbohachbeamaaGreatDoor.E
open Go.VC Go.RowKit Go.RwLone
theorem aMC (b:Nat) (x0 x2 x3 v:Value) (w:World)
 (c0:w.cell? ⟨b,0,none⟩=some x0) (c2:w.cell? ⟨b,2,none⟩=some x2) (c3:w.cell? ⟨b,3,none⟩=some x3)
 (hc:w.cell? ⟨b,4,none⟩=some (.int .i32 0)) (hn:w.cell? ⟨b,6,none⟩=some v) (ho:v.oneCell'=true) (hz:w.frozen? ⟨b,4,none⟩=false) :
 Calls Tryz.prog 31 #[.pointer (some ⟨b,0,none⟩)] w fun e w'=>e = .returned v /\
  w'=(w.setCell ⟨b,4,none⟩ (.int .i32 1)).setCell ⟨b,4,none⟩ (.int .i32 0):=by
 have hn':(w.setCell ⟨b,4,none⟩ (.int .i32 1)).cell? ⟨b,6,none⟩=some v:=(World.cell?_setCell_other _ ⟨b,4,none⟩ ⟨b,6,none⟩ _ (by simp)).trans hn
 go_enter_defers Tryz.func31,Tryz.ntmps31
 have e1:wrap32 (0+1)=1:=by unfold wrap32;omega
 have e2:wrap32 (1 + -1)=0:=by unfold wrap32;omega
 have hup : ¬ wrap32 (0+1)<0:=by rw [e1];decide
 go_wp2_with (go_at_call 55;refine (rlock_open Tryz.G5 b 0 0 x0 x3 _ c0 c3 hc hz hup).mono ?_;rintro e w' ⟨rfl,rfl⟩;rw [e1])
 refine leaves_cons (f:=56) (args:= #[.pointer (some ⟨b,0,none⟩)]) (by simp) (by simp [go_sem]) ?_
 refine (runlock_deferred Tryz.G5 b 0 1 x0 x2 .returning _ ((World.cell?_setCell_other _ ⟨b,4,none⟩ ⟨b,0,none⟩ _ (by simp)).trans c0) ((World.cell?_setCell_other _ ⟨b,4,none⟩ ⟨b,2,none⟩ _ (by simp)).trans c2) (World.cell?_setCell_same w _ _ hc) (by simp [hz]) (by rw [e2];decide)).mono ?_
 rintro e u' w'' ⟨rfl,rfl,rfl⟩
 rw [e2]
 exact ⟨_,results_tmp rfl _ _ _,rfl,rfl⟩
structure Pk (b:Nat) (w w':World):Prop where
 os:w'.os=w.os
 tape:w'.tape=w.tape
 output:w'.output=w.output
 size:w'.heap.size=w.heap.size
 gF : ∀ k,k≠b->w'.heap[k]? = w.heap[k]?
theorem Pk.trans {b:Nat} {w w' w'':World} (h:Pk b w w') (g:Pk b w' w''):Pk b w w'':=⟨g.os.trans h.os,g.tape.trans h.tape,g.output.trans h.output,g.size.trans h.size,fun k hk=>(g.gF k hk).trans (h.gF k hk)⟩
theorem Mz (w:World) (b o:Nat) (v:Value):Pk b w (w.setCell ⟨b,o,none⟩ v):=⟨rfl,rfl,rfl,by simp [World.setCell],fun k hk=>Below.heap_setCell _ _ _ _ hk⟩
theorem mE {w:World} {b o:Nat} {v:Value} {ys:List Value} {T:TypeId} (h:w.heap[b]? = some (.cells ys.toArray T (0,0))):(w.setCell ⟨b,o,none⟩ v).heap[b]? = some (.cells (ys.set o v).toArray T (0,0)):=by
 simp [World.setCell,Array.getElem?_modify,h]
theorem aIs {ns:List Nat} {bG outs:List AP} {n:Nat} {cs cs':List AC} {S:Nat->Prop} {μ : Nat->Nat} {w w':World} {ys ys' zs:List Value} {T:TypeId}
 (hheld : ∀ n cs,lk ns bG n=some cs->NG <= μ n /\ ∃ (ys zs:List Value) (T:TypeId),w.heap[μ n]? = some (.cells (ys++zs).toArray T (0,0))/\bE (own (cx S) μ (lk ns bG)) w cs ys)
 (hinj : ∀ n m,lk ns bG n≠none->lk ns bG m≠none -> μ n = μ m->n=m)
 (hc:lk ns bG n=some cs) (ho : ∀ m,lk ns outs m=if m=n then some cs' else lk ns bG m) (pk:Pk (μ n) w w') (hw:w.heap[μ n]? = some (.cells (ys++zs).toArray T (0,0))) (hw':w'.heap[μ n]? = some (.cells (ys'++zs).toArray T (0,0))) (hl:ys'.length=ys.length)
 (hrep:Ext (own (cx S) μ (lk ns bG)) w (own (cx S) μ (lk ns outs)) w'->bE (own (cx S) μ (lk ns outs)) w' cs' ys') :
 Ext (own (cx S) μ (lk ns bG)) w (own (cx S) μ (lk ns outs)) w'/\(∀ n,lk ns bG n≠none->lk ns outs n≠none /\ μ n = μ n)/\(∀ n,lk ns outs n≠none->lk ns bG n=none->w.heap.size <= μ n) /\
  (∀ n cs,lk ns outs n=some cs -> ∃ (ys zs:List Value) (T:TypeId),w'.heap[μ n]? = some (.cells (ys++zs).toArray T (0,0))/\bE (own (cx S) μ (lk ns outs)) w' cs ys) /\
  (∀ n m,lk ns outs n≠none->lk ns outs m≠none -> μ n = μ m->n=m)/\fF (fun b=> ∃ n,lk ns bG n≠none /\ μ n=b) w w':=by
 have hD : ∀ m,lk ns outs m≠none↔lk ns bG m≠none:=fun m=>by
  rw [ho]
  by_cases h:m=n
  ·subst h;simp [hc]
  ·rw [if_neg h]
 have hSS:(own (cx S) μ (lk ns bG)).S=(own (cx S) μ (lk ns outs)).S:=funext fun b=>propext (by
  constructor
  ·rintro (h | ⟨m,h,rfl⟩)
   ·exact .inl h
   ·exact .inr ⟨m,(hD m).2 h,rfl⟩
  ·rintro (h | ⟨m,h,rfl⟩)
   ·exact .inl h
   ·exact .inr ⟨m,(hD m).1 h,rfl⟩)
 have hSn:(own (cx S) μ (lk ns bG)).S (μ n):= .inr ⟨n,by rw [hc];simp,rfl⟩
 have hshape : ∀ b,w'.shape? b=w.shape? b:=fun b=>by
  by_cases hm:b = μ n
  ·rw [hm]
   unfold World.shape?
   rw [hw',hw]
   simp [hl]
  ·unfold World.shape?
   rw [pk.gF _ hm]
 have hext:Ext (own (cx S) μ (lk ns bG)) w (own (cx S) μ (lk ns outs)) w':=
  { D:=fun m h=>⟨(hD m).2 h,rfl⟩
    gF:=fun b hb1 hb2=>⟨pk.gF b (fun e=>hb1 (e ▸ hSn)),by rw [← hSS];exact hb1⟩
    size:=Nat.le_of_eq pk.size.symm
    mJ:=fun m h=>hshape _ }
 refine ⟨hext,fun m h=>⟨(hD m).2 h,rfl⟩,fun m h h0=>absurd h0 ((hD m).1 h),fun m xs h=> ?_,fun a b h1 h2 h3=>hinj a b ((hD a).1 h1) ((hD b).1 h2) h3,?_⟩
 ·rw [ho] at h
  by_cases hm:m=n
  ·subst hm
   rw [if_pos rfl] at h
   cases h
   exact ⟨ys',zs,T,hw',hrep hext⟩
  ·rw [if_neg hm] at h
   obtain ⟨hge',ys1,zs1,T1,hheap',hrep'⟩:=hheld m xs h
   have hne : μ m ≠ μ n:=fun e=>hm (hinj m n (by rw [h];simp) (by rw [hc];simp) e)
   exact ⟨ys1,zs1,T1,(pk.gF _ hne).trans hheap',nB hext hrep'⟩
 ·exact ⟨pk.os,pk.tape,pk.output,Nat.le_of_eq pk.size.symm,fun b hb1 hx=>pk.gF b (fun e=>hx ⟨n,by rw [hc];simp,e.symm⟩),fun b _=>hshape b⟩
def gG (c:AC):List AC:= [.v (.int .i32 0),.v (.int .u32 0),.v (.int .u32 0),.v (.int .u32 0),.v (.int .i32 0),.v (.int .i32 0),c,.ik .i64]
theorem aE3 {ns:List Nat} {bG:List AP} {n:Nat} {c:AC} (hk:c.known=true) (hc:lk ns bG n=some (gG c)) :
 wM Tryz.prog 31 [.c (.p n 0)] bG ns bG [.c c]:=by
 intro S w vs μ hS G hheld hinj hargs
 obtain ⟨hge,ys,zs,T,hheap,hrep⟩:=hheld n _ hc
 have hvs:vs = [.pointer (some ⟨μ n,0,none⟩)]:=by
  rcases vs with _ | ⟨v,_ | ⟨u,vs⟩⟩
  ·exact hargs.elim
  ·rw [hargs.1.2];rfl
  ·exact hargs.2.elim
 subst hvs
 match ys,hrep with
 | [y0,y1,y2,y3,y4,y5,y6,y7],hrep=>
 obtain ⟨⟨rfl,-⟩,⟨rfl,-⟩,⟨rfl,-⟩,⟨rfl,-⟩,⟨rfl,-⟩,⟨rfl,-⟩,r6,r7,-⟩:=hrep
 have cell : ∀ j v,([Value.int .i32 0,.int .u32 0,.int .u32 0,.int .u32 0,.int .i32 0,.int .i32 0,y6,y7]++zs)[j]? = some v->w.cell? ⟨μ n,j,none⟩=some v:=fun j v h=>by
  unfold World.cell?
  rw [hheap]
  simpa using h
 have hfz:w.frozen? ⟨μ n,4,none⟩=false:=by unfold World.frozen?;rw [hheap];simp
 refine (aMC (μ n) _ _ _ y6 w (cell 0 _ rfl) (cell 2 _ rfl) (cell 3 _ rfl) (cell 4 _ rfl) (cell 6 _ rfl) (AC.Xs hk r6) hfz).mono ?_
 rintro e w' ⟨rfl,rfl⟩
 have b1:=mE (o:=4) (v:= .int .i32 1) hheap
 have b2:=mE (o:=4) (v:= .int .i32 0) b1
 have pk:=(Mz w (μ n) 4 (.int .i32 1)).trans (Mz _ (μ n) 4 (.int .i32 0))
 have b3:((([Value.int .i32 0,.int .u32 0,.int .u32 0,.int .u32 0,.int .i32 0,.int .i32 0,y6,y7]++zs).set 4 (.int .i32 1)).set 4 (.int .i32 0)) = [Value.int .i32 0,.int .u32 0,.int .u32 0,.int .u32 0,.int .i32 0,.int .i32 0,y6,y7]++zs:=rfl
 rw [b3] at b2
 obtain ⟨hx,h1,h2,h3,h4,h5⟩:=aIs (outs:=bG) (cs':=gG c) hheld hinj hc (fun m=>by
  by_cases h:m=n
  ·rw [if_pos h,h,hc]
  ·rw [if_neg h]) pk hheap b2 rfl (fun hx=>⟨⟨rfl,rfl⟩,⟨rfl,rfl⟩,⟨rfl,rfl⟩,⟨rfl,rfl⟩,⟨rfl,rfl⟩,⟨rfl,rfl⟩,AC.dU hx r6,AC.dU (a:= .ik .i64) hx r7,trivial⟩)
 exact ⟨_,μ,rfl,h1,h2,h3,h4,AC.dU hx r6,h5⟩
theorem aDe:Enters Tryz.prog 31:=enters Tryz.func31 (by kernel_rfl) (by kernel_rfl)
noncomputable abbrev aIM (c:AC):=s4 (fR (.c (.p 1003 0))) An An (fR (.g (gG c))) rD fun _ x y _=> .io [1000,1001,1003] [x,y,.g (gG c)] [.c c]
theorem J0 {c:AC} (hk:c.known=true):Ok Tryz.prog 31 (aIM c):=fun zs r hr=>by
 obtain ⟨-,x,y,-,rfl,-,-,-,-,-,rfl⟩:=Xo hr
 refine .inr (.inr (.inr ⟨aDe,[.c (.p 1003 0)],[x,y,.g (gG c)],[1000,1001,1003],_,_,rfl,rfl,rfl,aE3 hk ?_⟩))
 simp [lk]
theorem aJZ {dv:Value} {l:List UInt8} {S:Nat->Prop} {w:World} (h:Reads S w .u8 dv (nb l)):(convert 35 9 dv).run Tryz.prog w = .ok (sv l) w:=by
 rcases h with ⟨rfl,h0⟩ | ⟨b,o,c,rfl,h1,h2,h3,h4⟩
 ·have:l = []:=by
   cases l with
   | nil=>rfl
   | cons a r=>cases h0
  subst this
  exact run_convert_bytes_nil w 35 _ Tryz.underlying35 (by kernel_rfl) 0 0 9 Tryz.underlying9
 ·rw [run_convert_bytes_arg w 35 _ Tryz.underlying35 (by kernel_rfl) b o _ c (nb l) rfl h4 9 Tryz.underlying9]
  have e:strOfNums (nb l)=⟨l.toArray⟩:=by
   unfold strOfNums nb
   congr 1
   rw [List.map_map]
   congr 1
   have:((fun n:Int=>UInt8.ofNat n.toNat) ∘ fun c:UInt8=>(c.toNat:Int))=_root_.id:=by
    funext c
    simp
   rw [this,List.map_id]
  rw [e]
  rfl
theorem aO5 {l:List UInt8} {t:bC} {n:Int} (hP:dQ l=(t,n,0)) (w:World) (G:aZ w):Calls Tryz.prog 57 #[sv l] w fun e w'=>Below w.heap.size w w' /\ ∃ ev,e = .returned (.tuple #[.agg #[.int .i64 t.u,.int .i64 t.x,ev],.int .i64 n,.int .i64 0])/\w'.ownsRow w.heap.size 51 2 ev t.es.length (bR t.es):=by
 have:=aOu l w G
 rw [hP] at this
 exact this
theorem aGN {w:World} {n:Nat} {e:TypeId} {m:Nat} {v:Value} {k:Nat} {xs:List Value} (h:w.ownsRow n e m v k xs) : ∃ A c,v = .slice A k c:=by
 rcases h.2 with ⟨rfl,h0⟩ | ⟨g,cap,cur,rfl,_⟩
 ·exact ⟨none,0,by rw [h0]⟩
 ·exact ⟨_,_,rfl⟩
theorem aIf {P:Program} {f:Nat} {s:List AP->Option AV} (h:Ok P f s) {args bG:List AP} {ns:List Nat} {outs l:List AP} (hs:s (args++bG)=some (.io ns outs l)) (hl:bG.length=ns.length):wM P f args bG ns outs l:=by
 rcases h _ _ hs with ⟨_,h,_⟩ | ⟨h,_⟩ | ⟨_,_,_,h,_⟩ | ⟨_,as',cs,ns',outs',l',h1,h2,h3,h4⟩
 ·cases h
 ·cases h
 ·cases h
 ·cases h3
  have e:=List.append_inj' h1 (by rw [hl,h2])
  rw [e.1,e.2]
  exact h4
abbrev nw (t:bC):Nat->Option (List AC):=lk [1000,1001] [.g (aW t),.g (aK (t.x,oR t.es))]
theorem aQy {t:bC} (hp:bV.p t) (hm:dG t) {w:World} (G:aZ w) {S:Nat->Prop} (hS : ∀ b,S b->b<w.heap.size/\NG<=b) {ev:Value} (hrow:(AP.c (.q 2 (qE t.es))).rep ⟨S,fun _=>0,fun _=>False⟩ w ev) :
 Calls Tryz.prog 58 #[.agg #[.int .i64 t.u,.int .i64 t.x,ev]] w fun e w'=> ∃ μ : Nat->Nat,e = .returned (.tuple #[.pointer (some ⟨μ 1001,0,none⟩),.int .i64 0])/\w.heap.size <= μ 1000/\w.heap.size <= μ 1001 /\ μ 1000 ≠ μ 1001 /\
  (∃ (ys zs:List Value) (T:TypeId),w'.heap[μ 1000]? = some (.cells (ys++zs).toArray T (0,0))/\bE (own (cx S) μ (nw t)) w' (aW t) ys)/\(∃ (ys zs:List Value) (T:TypeId),w'.heap[μ 1001]? = some (.cells (ys++zs).toArray T (0,0))/\bE (own (cx S) μ (nw t)) w' (aK (t.x,oR t.es)) ys) /\
  w'.os=w.os/\w'.tape=w.tape/\w'.output=w.output/\w.heap.size<=w'.heap.size /\ ∀ k,k<w.heap.size->w'.heap[k]? = w.heap[k]? := by
 have h0:(eY t).2=0:=by rw [Na];exact hm
 obtain ⟨p1,p2,p3⟩:=hp
 have hM:wM Tryz.prog 58 [bV.e t] [.c .u,.c .u] [1000,1001] [.g (aW t),.g (aK (t.x,oR t.es))] [.c (.p 1001 0),iv .i64 0]:=aIf aMT (by
  show s3 _ _ _ _ _ [bV.e t,.c .u,.c .u]=_
  have hv:bV.v (bV.e t):=(bV.enc ⟨p1,p2,p3⟩).1
  have ht:bV.t (bV.e t)=t:=(bV.enc ⟨p1,p2,p3⟩).2
  simp only [s3,hv,ht,Q3,and_self,if_true,h0]) rfl
 have hN : ∀ n,lk [1000,1001] [AP.c .u,.c .u] n=none:=fun n=>by simp [lk]
 refine (hM S w [.agg #[.int .i64 t.u,.int .i64 t.x,ev]] (fun _=>0) hS G (fun n cs h=>by rw [hN] at h;cases h) (fun n m h=>absurd (hN n) h) ⟨⟨[.int .i64 t.u,.int .i64 t.x,ev],rfl,⟨rfl,rfl⟩,⟨rfl,rfl⟩,?_,trivial⟩,trivial⟩).mono ?_
 ·refine AC.dU (a:= .q 2 (qE t.es)) (L:=⟨S,fun _=>0,fun _=>False⟩) (w:=w) ⟨fun n h=>h.elim,fun b h hlt=>⟨rfl,?_⟩,Nat.le_refl _,fun n h=>h.elim⟩ hrow
  rintro (h1 | ⟨n,h1,-⟩)
  ·exact h h1
  ·exact h1 (hN n)
 ·rintro e w' ⟨v,μ,rfl,-,h2,h3,h4,h5,h6⟩
  obtain ⟨vs,rfl,h5⟩:=h5
  rcases vs with _ | ⟨v1,_ | ⟨v2,_ | ⟨v3,vs⟩⟩⟩
  ·exact h5.elim
  ·exact h5.2.elim
  ·obtain ⟨⟨-,rfl⟩,⟨rfl,-⟩,-⟩:=h5
   have k0:nw t 1000=some (aW t):=by simp [nw,lk]
   have k1:nw t 1001=some (aK (t.x,oR t.es)):=by simp [nw,lk]
   refine ⟨μ,rfl,h2 1000 (by rw [show lk [1000,1001] _ 1000=_ from k0];simp) (hN _),h2 1001 (by rw [show lk [1000,1001] _ 1001=_ from k1];simp) (hN _),fun h=> ?_,h3 1000 _ k0,h3 1001 _ k1,h6.os,h6.tape,h6.output,h6.size,fun k hk=>h6.block k hk (fun ⟨n,hn,_⟩=>hn (hN n))⟩
   have:=h4 1000 1001 (by rw [show lk [1000,1001] _ 1000=_ from k0];simp) (by rw [show lk [1000,1001] _ 1001=_ from k1];simp) h
   omega
  ·exact h5.2.2.elim
def fU (w:World) (b r:Nat) (p:Value):World:=(((((((((((w.setCell ⟨b,0,none⟩ (.int .i32 1)).setCell ⟨b,4,none⟩ (.int .i32 (-1073741824))).setCell ⟨b,6,none⟩ p).setCell ⟨r,0,none⟩ (.int .i64 0)).setCell ⟨r,1,none⟩ (.int .i64 0)).setCell ⟨r,2,none⟩ (.int .u64 0)).setCell ⟨r,3,none⟩ (.int .i64 0)).setCell ⟨r,4,none⟩ (.int .i64 0)).setCell ⟨r,5,none⟩ (.int .i64 0)).setCell ⟨r,6,none⟩ (.slice none 0 0)).setCell ⟨r,7,none⟩ (.int .i64 0))
def uO:List Value:= [.int .i64 0,.int .i64 0,.int .u64 0,.int .i64 0,.int .i64 0,.int .i64 0,.slice none 0 0,.int .i64 0]
theorem aNW {w:World} {b r:Nat} {y6 y7 p:Value} {zs:List Value} {T:TypeId} (hne:b≠r) (hl:w.heap[b]? = some (.cells ([.int .i32 0,.int .u32 0,.int .u32 0,.int .u32 0,.int .i32 0,.int .i32 0,y6,y7]++zs).toArray T (0,0)))
 (hr:w.heap[r]? = some (.cells uO.toArray 37 (0,0))) :
 (fU w b r p).heap[b]? = some (.cells ([.int .i32 1,.int .u32 0,.int .u32 0,.int .u32 0,.int .i32 (-1073741824),.int .i32 0,p,y7]++zs).toArray T (0,0))/\(fU w b r p).heap[r]? = some (.cells uO.toArray 37 (0,0)) /\
  (∀ k,k≠b->k≠r->(fU w b r p).heap[k]? = w.heap[k]?)/\(fU w b r p).heap.size=w.heap.size/\(fU w b r p).os=w.os/\(fU w b r p).tape=w.tape/\(fU w b r p).output=w.output:=by
 have o : ∀ {w:World} {k c j:Nat} {v:Value},k≠c->(w.setCell ⟨c,j,none⟩ v).heap[k]? = w.heap[k]? := fun h=>Below.heap_setCell _ _ _ _ h
 have sz : ∀ {w:World} {c j:Nat} {v:Value},(w.setCell ⟨c,j,none⟩ v).heap.size=w.heap.size:=by simp [World.setCell]
 have q1 : ∀ {w:World} {c j:Nat} {v:Value},(w.setCell ⟨c,j,none⟩ v).os=w.os:=rfl
 have q2 : ∀ {w:World} {c j:Nat} {v:Value},(w.setCell ⟨c,j,none⟩ v).tape=w.tape:=rfl
 have q3 : ∀ {w:World} {c j:Nat} {v:Value},(w.setCell ⟨c,j,none⟩ v).output=w.output:=rfl
 refine ⟨?_,?_,fun k h1 h2=> ?_,?_,by unfold fU;simp only [q1],by unfold fU;simp only [q2],by unfold fU;simp only [q3]⟩
 ·unfold fU
  rw [o hne,o hne,o hne,o hne,o hne,o hne,o hne,o hne]
  have h1:=mE (o:=0) (v:= .int .i32 1) hl
  have h2:=mE (o:=4) (v:= .int .i32 (-1073741824)) h1
  have h3:=mE (o:=6) (v:=p) h2
  simp only [List.cons_append,List.nil_append,List.set_cons_zero,List.set_cons_succ] at h3 ⊢
  exact h3
 ·unfold fU
  have h0:(((w.setCell ⟨b,0,none⟩ (.int .i32 1)).setCell ⟨b,4,none⟩ (.int .i32 (-1073741824))).setCell ⟨b,6,none⟩ p).heap[r]? = some (.cells uO.toArray 37 (0,0)):=by
   rw [o hne.symm,o hne.symm,o hne.symm];exact hr
  generalize ((w.setCell ⟨b,0,none⟩ (.int .i32 1)).setCell ⟨b,4,none⟩ (.int .i32 (-1073741824))).setCell ⟨b,6,none⟩ p=w0 at *
  have h1:=mE (o:=0) (v:= .int .i64 0) h0
  have h2:=mE (o:=1) (v:= .int .i64 0) h1
  have h3:=mE (o:=2) (v:= .int .u64 0) h2
  have h4:=mE (o:=3) (v:= .int .i64 0) h3
  have h5:=mE (o:=4) (v:= .int .i64 0) h4
  have h6:=mE (o:=5) (v:= .int .i64 0) h5
  have h7:=mE (o:=6) (v:= .slice none 0 0) h6
  have h8:=mE (o:=7) (v:= .int .i64 0) h7
  simp only [uO,List.set_cons_zero,List.set_cons_succ] at h8 ⊢
  exact h8
 ·unfold fU
  rw [o h2,o h2,o h2,o h2,o h2,o h2,o h2,o h2,o h1,o h1,o h1]
 ·unfold fU
  rw [sz,sz,sz,sz,sz,sz,sz,sz,sz,sz,sz]
theorem aHv {w:World} {b r:Nat} {p:Value} : (((((((((((w.setCell ⟨b,0,none⟩ (.int .i32 1)).setCell ⟨b,4,none⟩ (.int .i32 (-1073741824))).setCell ⟨b,6,none⟩ p).setCell ⟨r,0,none⟩ (.int .i64 0)).setCell ⟨r,1,none⟩ (.int .i64 0)).setCell ⟨r,2,none⟩ (.int .u64 0)).setCell ⟨r,3,none⟩ (.int .i64 0)).setCell ⟨r,4,none⟩ (.int .i64 0)).setCell ⟨r,5,none⟩ (.int .i64 0)).setCell ⟨r,6,none⟩ (.slice none 0 0)).setCell ⟨r,7,none⟩ (.int .i64 0))=fU w b r p:=by
 unfold fU
 rfl
theorem aDV {b:Nat} {dv y6 y7:Value} {zs:List Value} {T:TypeId} {l:List UInt8} {t:bC} {n:Int} {w:World} (G:aZ w) {S:Nat->Prop} (hS : ∀ k,S k->k<w.heap.size/\NG<=k) (hbS:S b) (hd:Reads S w .u8 dv (nb l)) (hP:dQ l=(t,n,0)) (hp:bV.p t) (hm:dG t)
 (hlib:w.heap[b]? = some (.cells ([.int .i32 0,.int .u32 0,.int .u32 0,.int .u32 0,.int .i32 0,.int .i32 0,y6,y7]++zs).toArray T (0,0))) :
 Calls Tryz.prog 32 #[.pointer (some ⟨b,0,none⟩),dv] w fun e w'=>e = .returned (.agg uO.toArray) /\ ∃ μ : Nat->Nat,w.heap.size <= μ 1000/\w.heap.size <= μ 1001 /\ μ 1000 ≠ μ 1001 /\
  (∃ (ys zs:List Value) (T:TypeId),w'.heap[μ 1000]? = some (.cells (ys++zs).toArray T (0,0))/\bE (own (cx fun k=>S k∨k=w.heap.size) μ (nw t)) w' (aW t) ys)/\(∃ (ys zs:List Value) (T:TypeId),w'.heap[μ 1001]? = some (.cells (ys++zs).toArray T (0,0))/\bE (own (cx fun k=>S k∨k=w.heap.size) μ (nw t)) w' (aK (t.x,oR t.es)) ys) /\
  w'.heap[b]? = some (.cells ([.int .i32 0,.int .u32 0,.int .u32 0,.int .u32 0,.int .i32 0,.int .i32 0,.pointer (some ⟨μ 1001,0,none⟩),y7]++zs).toArray T (0,0)) /\
  w'.os=w.os/\w'.tape=w.tape/\w'.output=w.output/\w.heap.size<=w'.heap.size /\ ∀ k,k<w.heap.size->k≠b->w'.heap[k]? = w.heap[k]? := by
 have hB:Below w.heap.size w (w.alloc (.cells #[.int .i64 0,.int .i64 0,.int .u64 0,.int .i64 0,.int .i64 0,.int .i64 0,.slice none 0 0,.int .i64 0] 37)):=(Below.refl _ _).alloc (Nat.le_refl _) _
 have hd1:Reads S (w.alloc (.cells #[.int .i64 0,.int .i64 0,.int .u64 0,.int .i64 0,.int .i64 0,.int .i64 0,.slice none 0 0,.int .i64 0] 37)) .u8 dv (nb l):=Reads.ext (L:=⟨S,fun _=>0,fun _=>False⟩) (L':=⟨S,fun _=>0,fun _=>False⟩) ⟨fun n h=>h.elim,fun b h hlt=>⟨hB.block b hlt,h⟩,hB.size,fun n h=>h.elim⟩ hd
 have G1:aZ (w.alloc (.cells #[.int .i64 0,.int .i64 0,.int .u64 0,.int .i64 0,.int .i64 0,.int .i64 0,.slice none 0 0,.int .i64 0] 37)):=aZ.jA G hB.size (fun k hk=>hB.block k (Nat.lt_of_lt_of_le hk (aZ.le G)))
 have hr0:(w.alloc (.cells #[.int .i64 0,.int .i64 0,.int .u64 0,.int .i64 0,.int .i64 0,.int .i64 0,.slice none 0 0,.int .i64 0] 37)).heap[w.heap.size]? = some (.cells #[.int .i64 0,.int .i64 0,.int .u64 0,.int .i64 0,.int .i64 0,.int .i64 0,.slice none 0 0,.int .i64 0] 37 (0,0)):=heap_alloc_new _ _
 have hs0:(w.alloc (.cells #[.int .i64 0,.int .i64 0,.int .u64 0,.int .i64 0,.int .i64 0,.int .i64 0,.slice none 0 0,.int .i64 0] 37)).heap.size=w.heap.size+1:=by simp
 have hcv:=aJZ hd1
 go_enter_defers Tryz.func32,Tryz.ntmps32
 go_wp2_with (go_at_call 57;refine (aO5 hP _ G1).mono ?_;rintro e w1 ⟨hB1,ev,rfl,hown⟩;obtain ⟨A,c,rfl⟩:=aGN hown)
 have hA:Below w1.heap.size w1 (w1.alloc (.cells #[.int .i64 t.u,.int .i64 t.x,.slice A t.es.length c] 24)):=(Below.refl _ _).alloc (Nat.le_refl _) _
 have hz1:w.heap.size+1<=w1.heap.size:=by have:=hB1.size;omega
 have hz2:w1.heap.size<(w1.alloc (.cells #[.int .i64 t.u,.int .i64 t.x,.slice A t.es.length c] 24)).heap.size:=by simp
 have hB2:Below w.heap.size w (w1.alloc (.cells #[.int .i64 t.u,.int .i64 t.x,.slice A t.es.length c] 24)):=⟨hA.os.trans (hB1.os.trans hB.os),hA.tape.trans (hB1.tape.trans hB.tape),hA.output.trans (hB1.output.trans hB.output),by omega,fun k hk=>(hA.block k (by omega)).trans ((hB1.block k (by omega)).trans (hB.block k hk))⟩
 have hS2 : ∀ k,(S k∨k=w.heap.size)->k<(w1.alloc (.cells #[.int .i64 t.u,.int .i64 t.x,.slice A t.es.length c] 24)).heap.size/\NG<=k:=fun k hk=>by
  rcases hk with hk | rfl
  ·have:=hS k hk;exact ⟨by omega,this.2⟩
  ·exact ⟨by omega,aZ.le G⟩
 have G2:aZ (w1.alloc (.cells #[.int .i64 t.u,.int .i64 t.x,.slice A t.es.length c] 24)):=aZ.jA G hB2.size (fun k hk=>hB2.block k (Nat.lt_of_lt_of_le hk (aZ.le G)))
 have hrow:(AP.c (.q 2 (qE t.es))).rep ⟨fun k=>S k∨k=w.heap.size,fun _=>0,fun _=>False⟩ (w1.alloc (.cells #[.int .i64 t.u,.int .i64 t.x,.slice A t.es.length c] 24)) (.slice A t.es.length c):=by
  have h1:=aAP (S:=fun k=>S k∨k=w.heap.size) (fun k hk=>by
   rw [hs0]
   rcases hk with hk | rfl
   ·have:=(hS k hk).1;omega
   ·omega) hown
  exact AC.dU (a:= .q 2 (qE t.es)) (L:=⟨fun k=>S k∨k=w.heap.size,fun _=>0,fun _=>False⟩) (L':=⟨fun k=>S k∨k=w.heap.size,fun _=>0,fun _=>False⟩) ⟨fun n h=>h.elim,fun b h hlt=>⟨hA.block b hlt,h⟩,hA.size,fun n h=>h.elim⟩ h1
 refine (aQy hp hm G2 hS2 hrow).mono ?_
 rintro e w2 ⟨μ,rfl,m0,m1,mne,hb0,hb1,hos,htp,hout,hsz,hkeep⟩
 have hbl:=(hS b hbS).1
 have hl2:w2.heap[b]? = some (.cells ([.int .i32 0,.int .u32 0,.int .u32 0,.int .u32 0,.int .i32 0,.int .i32 0,y6,y7]++zs).toArray T (0,0)):=(hkeep b (by omega)).trans ((hB2.block b hbl).trans hlib)
 have hr2:w2.heap[w.heap.size]? = some (.cells uO.toArray 37 (0,0)):=(hkeep _ (by omega)).trans ((hA.block _ (by omega)).trans ((hB1.block _ (by omega)).trans hr0))
 have hfar : ∀ k,k<w.heap.size->w2.heap[k]? = w.heap[k]? := fun k hk=>(hkeep k (by omega)).trans (hB2.block k hk)
 have o2:w2.os=w.os:=hos.trans hB2.os
 have t2:w2.tape=w.tape:=htp.trans hB2.tape
 have u2:w2.output=w.output:=hout.trans hB2.output
 have m0':w.heap.size < μ 1000:=by omega
 have m1':w.heap.size < μ 1001:=by omega
 have s2:w.heap.size<w2.heap.size:=by omega
 have cell : ∀ j v,([Value.int .i32 0,.int .u32 0,.int .u32 0,.int .u32 0,.int .i32 0,.int .i32 0,y6,y7]++zs)[j]? = some v->w2.cell? ⟨b,j,none⟩=some v:=fun j v h=>by
  unfold World.cell?
  rw [hl2]
  simpa using h
 have hfz : ∀ j,w2.frozen? ⟨b,j,none⟩=false:=fun j=>by unfold World.frozen?;rw [hl2];simp
 have c0:=cell 0 _ rfl
 have c2:=cell 2 _ rfl
 have c3:=cell 3 _ rfl
 have c4:=cell 4 _ rfl
 have c6:=cell 6 _ rfl
 have z6:=hfz 6
 have hne:b≠w.heap.size:=fun h=>by have:=(hS b hbS).1;omega
 have hne':w.heap.size≠b:=Ne.symm hne
 clear G1 hd1 hcv hr0 hs0 hB1 hown hB2 hS2 G2 hrow hkeep hB hA hz1 hz2 hos htp hout hsz m0 m1
 generalize hrr:w.heap.size=r at *
 have rcell : ∀ j v,([Value.int .i64 0,.int .i64 0,.int .u64 0,.int .i64 0,.int .i64 0,.int .i64 0,.slice none 0 0,.int .i64 0]:List Value)[j]? = some v->w2.cell? ⟨r,j,none⟩=some v:=fun j v h=>by
  unfold World.cell?
  rw [hr2]
  simpa [uO] using h
 have rfz : ∀ j,w2.frozen? ⟨r,j,none⟩=false:=fun j=>by unfold World.frozen?;rw [hr2];simp
 have d0:=rcell 0 _ rfl
 have d1:=rcell 1 _ rfl
 have d2:=rcell 2 _ rfl
 have d3:=rcell 3 _ rfl
 have d4:=rcell 4 _ rfl
 have d5:=rcell 5 _ rfl
 have d6:=rcell 6 _ rfl
 have d7:=rcell 7 _ rfl
 have f0:=rfz 0
 have f1:=rfz 1
 have f2:=rfz 2
 have f3:=rfz 3
 have f4:=rfz 4
 have f5:=rfz 5
 have f6:=rfz 6
 have f7:=rfz 7
 go_wp2_with (go_at_call 59;refine (wlock_free Tryz.aAf b 0 _ _ _ c0 c2 c3 c4 (hfz 0) (hfz 4)).mono ?_;rintro e w' ⟨rfl,rfl⟩)
 have hF:=aNW (p:= .pointer (some ⟨μ 1001,0,none⟩)) hne hl2 hr2
 rw [aHv]
 generalize fU w2 b r (.pointer (some ⟨μ 1001,0,none⟩))=W at *
 obtain ⟨hWb,hWr,hWk,gL,hWo,hWt,hWu⟩:=hF
 have wcell : ∀ j v,([Value.int .i32 1,.int .u32 0,.int .u32 0,.int .u32 0,.int .i32 (-1073741824),.int .i32 0,.pointer (some ⟨μ 1001,0,none⟩),y7]++zs)[j]? = some v->W.cell? ⟨b,j,none⟩=some v:=fun j v h=>by
  unfold World.cell?
  rw [hWb]
  simpa using h
 have wfz : ∀ j,W.frozen? ⟨b,j,none⟩=false:=fun j=>by unfold World.frozen?;rw [hWb];simp
 refine leaves_cons (f:=60) (args:= #[.pointer (some ⟨b,0,none⟩)]) (by simp) (by simp [go_sem]) ?_
 refine (wunlock_deferred Tryz.aAf b 0 _ _ .returning W (wcell 0 _ rfl) (wcell 2 _ rfl) (wcell 3 _ rfl) (wcell 4 _ rfl) (wfz 0) (wfz 4)).mono ?_
 rintro e u' w'' ⟨rfl,rfl,rfl⟩
 have hW1:=mE (o:=4) (v:= .int .i32 0) hWb
 have hW2:=mE (o:=0) (v:= .int .i32 0) hW1
 simp only [List.cons_append,List.nil_append,List.set_cons_zero,List.set_cons_succ] at hW2
 have pk:=(Mz W b 4 (.int .i32 0)).trans (Mz _ b 0 (.int .i32 0))
 have hW3:=(pk.gF r hne').trans hWr
 have hfin : ∀ k,k≠b->k≠r->((W.setCell ⟨b,4,none⟩ (.int .i32 0)).setCell ⟨b,0,none⟩ (.int .i32 0)).heap[k]? = w2.heap[k]? := fun k h1 h2=>(pk.gF k h1).trans (hWk k h1 h2)
 have hsf:((W.setCell ⟨b,4,none⟩ (.int .i32 0)).setCell ⟨b,0,none⟩ (.int .i32 0)).heap.size=w2.heap.size:=pk.size.trans gL
 have of:=pk.os.trans (hWo.trans o2)
 have tf:=pk.tape.trans (hWt.trans t2)
 have uf:=pk.output.trans (hWu.trans u2)
 show Leaves _ _ _ _ [] _ ((W.setCell ⟨b,4,none⟩ (.int .i32 0)).setCell ⟨b,0,none⟩ (.int .i32 0))
 generalize (W.setCell ⟨b,4,none⟩ (.int .i32 0)).setCell ⟨b,0,none⟩ (.int .i32 0)=F at *
 have hx:Ext (own (cx fun k=>S k∨k=r) μ (nw t)) w2 (own (cx fun k=>S k∨k=r) μ (nw t)) F:=
  { D:=fun n h=>⟨h,rfl⟩
    gF:=fun k h _=>⟨hfin k (fun e=>h (.inl (.inl (e ▸ hbS)))) (fun e=>h (.inl (.inr e))),h⟩
    size:=Nat.le_of_eq hsf.symm
    mJ:=fun n h=>by
     have hn:n=1000∨n=1001:=by
      have h:lk [1000,1001] _ n≠none:=h
      have:=xK h
      simpa using this
     have:F.heap[μ n]? = w2.heap[μ n]? := by
      rcases hn with rfl | rfl
      ·exact hfin _ (by omega) (by omega)
      ·exact hfin _ (by omega) (by omega)
     show F.shape? (μ n)=w2.shape? (μ n)
     unfold World.shape?
     rw [this] }
 obtain ⟨ya,za,Ta,ha,ra⟩:=hb0
 obtain ⟨yb,zb,Tb',hb,rb⟩:=hb1
 refine ⟨.agg uO.toArray,results_cell_row (p:=4) (ty:=37) rfl _ F r 37 uO.toArray (0,0) _ (by simp) hW3 Tryz.underlying37 (by kernel_rfl) (by kernel_rfl),rfl,μ,by omega,by omega,mne,⟨ya,za,Ta,(hfin _ (by omega) (by omega)).trans ha,?_⟩,⟨yb,zb,Tb',(hfin _ (by omega) (by omega)).trans hb,?_⟩,hW2,of,tf,uf,by omega,fun k hk hkb=>(hfin k hkb (by omega)).trans (hfar k (by omega))⟩
 ·rw [hrr];exact nB hx ra
 ·rw [hrr];exact nB hx rb
end Go.Proofs.YtfcbohachbeamaaGreatDoor.E
end
section
namespace Go.Proofs.YtfcbohachbeamaaGreatDoor.E
open Go.VC Go.RowKit
theorem lk3 {a b c:AP} {n:Nat} : lk [1000,1001,1003] [a,b,c] n=if n=1000 then (match a with | .g x=>some x | .c _=>none) else if n=1001 then (match b with | .g x=>some x | .c _=>none) else if n=1003 then (match c with | .g x=>some x | .c _=>none) else none:=by
 simp only [lk]
 by_cases h0:n=1000
 ·subst h0;simp;cases a<;>rfl
 ·by_cases h1:n=1001
  ·subst h1;simp;cases b<;>rfl
  ·by_cases h3:n=1003
   ·subst h3;simp;cases c<;>rfl
   ·rw [if_neg (Ne.symm h0),if_neg (Ne.symm h1),if_neg (Ne.symm h3),if_neg h0,if_neg h1,if_neg h3]
abbrev wI:List AP:= [.c .u,.c .u,.g (gG (.v (.pointer none)))]
abbrev sZ (t:bC):List AP:= [.g (aW t),.g (aK (t.x,oR t.es)),.g (gG (.p 1001 0))]
theorem Qh {n:Nat} : lk [1000,1001,1003] wI n=if n=1003 then some (gG (.v (.pointer none))) else none:=by
 rw [lk3]
 by_cases h0:n=1000
 ·subst h0;rfl
 ·by_cases h1:n=1001
  ·subst h1;rfl
  ·rw [if_neg h0,if_neg h1]
theorem Gt {t:bC} {n:Nat} : lk [1000,1001,1003] (sZ t) n=if n=1000 then some (aW t) else if n=1001 then some (aK (t.x,oR t.es)) else if n=1003 then some (gG (.p 1001 0)) else none:=lk3
theorem Tm {t:bC} {n:Nat} : nw t n=if n=1000 then some (aW t) else if n=1001 then some (aK (t.x,oR t.es)) else none:=by
 simp only [nw,lk]
 by_cases h0:n=1000
 ·subst h0;simp
 ·by_cases h1:n=1001
  ·subst h1;simp
  ·rw [if_neg (Ne.symm h0),if_neg (Ne.symm h1),if_neg h0,if_neg h1]
theorem aC4 {l:List UInt8} {t:bC} {n:Int} (hP:dQ l=(t,n,0)) (hp:bV.p t) (hm:dG t) :
 wM Tryz.prog 32 [.c (.p 1003 0),.c (.r .u8 (nb l))] wI [1000,1001,1003] (sZ t) [Ah (0,0,0,0,0)]:=by
 intro S w vs μ hS G hheld hinj hargs
 have k3:lk [1000,1001,1003] wI 1003=some (gG (.v (.pointer none))):=by rw [Qh];rfl
 obtain ⟨hge,ys,zs,T,hheap,hrep⟩:=hheld 1003 _ k3
 obtain ⟨dv,rfl,hd⟩ : ∃ dv,vs = [.pointer (some ⟨μ 1003,0,none⟩),dv]/\Reads (own (cx S) μ (lk [1000,1001,1003] wI)).S w .u8 dv (nb l):=by
  rcases vs with _ | ⟨v,_ | ⟨u,_ | ⟨u',vs⟩⟩⟩
  ·exact hargs.elim
  ·exact hargs.2.elim
  ·exact ⟨u,by rw [hargs.1.2];rfl,hargs.2.1⟩
  ·exact hargs.2.2.elim
 match ys,hrep with
 | [y0,y1,y2,y3,y4,y5,y6,y7],hrep=>
 obtain ⟨⟨rfl,-⟩,⟨rfl,-⟩,⟨rfl,-⟩,⟨rfl,-⟩,⟨rfl,-⟩,⟨rfl,-⟩,r6,⟨k7,rfl⟩,-⟩:=hrep
 have hS1 : ∀ k,(own (cx S) μ (lk [1000,1001,1003] wI)).S k->k<w.heap.size/\NG<=k:=by
  rintro k (h | ⟨m,hm,rfl⟩)
  ·exact hS k h
  ·have hm:lk [1000,1001,1003] wI m≠none:=hm
   rw [Qh] at hm
   split at hm
   ·rename_i e;subst e
    exact ⟨(Array.getElem?_eq_some_iff.1 hheap).1,hge⟩
   ·exact absurd rfl hm
 have hbS:(own (cx S) μ (lk [1000,1001,1003] wI)).S (μ 1003):= .inr ⟨1003,by rw [k3];simp,rfl⟩
 refine (aDV G hS1 hbS hd hP hp hm hheap).mono ?_
 rintro e w' ⟨rfl,ν,n0,n1,nne,⟨ya,za,Ta,ha,ra⟩,⟨yb,zb,Tb',hb,rb⟩,hlib,hos,htp,hout,hsz,hkeep⟩
 have hlt : μ 1003<w.heap.size:=(hS1 _ hbS).1
 let μ':Nat->Nat:=fun n=>if n=1003 then μ 1003 else ν n
 have e0 : μ' 1000 = ν 1000:=rfl
 have e1 : μ' 1001 = ν 1001:=rfl
 have e3 : μ' 1003 = μ 1003:=rfl
 have hx:Ext (own (cx fun k=>(own (cx S) μ (lk [1000,1001,1003] wI)).S k∨k=w.heap.size) ν (nw t)) w' (own (cx S) μ' (lk [1000,1001,1003] (sZ t))) w':=
  { D:=fun m h=>by
     have h:nw t m≠none:=h
     show lk [1000,1001,1003] (sZ t) m≠none /\ μ' m = ν m
     rw [Tm] at h
     rw [Gt]
     by_cases h0:m=1000
     ·subst h0;exact ⟨by simp,rfl⟩
     ·by_cases h1:m=1001
      ·subst h1;exact ⟨by simp,rfl⟩
      ·rw [if_neg h0,if_neg h1] at h;exact absurd rfl h
    gF:=fun k h _=>⟨rfl,fun hk=>h (by
     rcases hk with hk | ⟨m,hm,hk⟩
     ·exact .inl (.inl (.inl hk))
     ·have hm:lk [1000,1001,1003] (sZ t) m≠none:=hm
      have hk : μ' m=k:=hk
      rw [Gt] at hm
      by_cases h0:m=1000
      ·subst h0;exact .inr ⟨1000,by show nw t 1000≠none;rw [Tm];simp,hk⟩
      ·by_cases h1:m=1001
       ·subst h1;exact .inr ⟨1001,by show nw t 1001≠none;rw [Tm];simp,hk⟩
       ·by_cases h3:m=1003
        ·subst h3
         rw [e3] at hk
         exact .inl (.inl (hk ▸ hbS))
        ·rw [if_neg h0,if_neg h1,if_neg h3] at hm;exact absurd rfl hm)⟩
    size:=Nat.le_refl _
    mJ:=fun m h=>rfl }
 refine ⟨_,μ',rfl,fun m hm=> ?_,fun m hm h0=> ?_,fun m cs hcs=> ?_,fun a b h1 h2 h3=> ?_,?_,?_⟩
 ·rw [Qh] at hm
  split at hm
  ·rename_i e;subst e
   exact ⟨by rw [Gt];simp,rfl⟩
  ·exact absurd rfl hm
 ·rw [Gt] at hm
  rw [Qh] at h0
  by_cases q0:m=1000
  ·subst q0;exact n0
  ·by_cases q1:m=1001
   ·subst q1;exact n1
   ·by_cases q3:m=1003
    ·subst q3;cases h0
    ·rw [if_neg q0,if_neg q1,if_neg q3] at hm;exact absurd rfl hm
 ·rw [Gt] at hcs
  by_cases q0:m=1000
  ·subst q0;cases hcs
   exact ⟨ya,za,Ta,ha,nB hx ra⟩
  ·by_cases q1:m=1001
   ·subst q1;cases hcs
    exact ⟨yb,zb,Tb',hb,nB hx rb⟩
   ·by_cases q3:m=1003
    ·subst q3;cases hcs
     refine ⟨_,zs,T,hlib,⟨rfl,rfl⟩,⟨rfl,rfl⟩,⟨rfl,rfl⟩,⟨rfl,rfl⟩,⟨rfl,rfl⟩,⟨rfl,rfl⟩,⟨?_,rfl⟩,⟨k7,rfl⟩,trivial⟩
     show lk [1000,1001,1003] (sZ t) 1001≠none
     rw [Gt];simp
    ·rw [if_neg q0,if_neg q1,if_neg q3] at hcs;cases hcs
 ·have key : ∀ m,lk [1000,1001,1003] (sZ t) m≠none->m=1000∨m=1001∨m=1003:=fun m hm=>by
   have:=xK hm
   simpa using this
  rcases key a h1 with rfl | rfl | rfl<;>rcases key b h2 with rfl | rfl | rfl
  ·rfl
  ·exact absurd h3 nne
  ·rw [e0,e3] at h3;omega
  ·exact absurd h3.symm nne
  ·rfl
  ·rw [e1,e3] at h3;omega
  ·rw [e0,e3] at h3;omega
  ·rw [e1,e3] at h3;omega
  ·rfl
 ·exact ⟨uO,rfl,⟨rfl,rfl⟩,⟨rfl,rfl⟩,⟨rfl,rfl⟩,⟨rfl,rfl⟩,⟨rfl,rfl⟩,⟨rfl,rfl⟩,.inl ⟨rfl,rfl⟩,⟨rfl,rfl⟩,trivial⟩
 ·refine ⟨hos,htp,hout,hsz,fun k hk hX=>hkeep k hk (fun e=>hX ⟨1003,by rw [k3];simp,e.symm⟩),fun k hk=> ?_⟩
  by_cases e:k = μ 1003
  ·subst e
   unfold World.shape?
   rw [hlib,hheap]
   rfl
  ·unfold World.shape?
   rw [hkeep k hk e]
theorem aNS:Enters Tryz.prog 32:=enters Tryz.func32 (by kernel_rfl) (by kernel_rfl)
noncomputable abbrev aON:=s5 (fR (.c (.p 1003 0))) jJ (fR (.c .u)) (fR (.c .u)) (fR (.g (gG (.v (.pointer none))))) (fun _ l _ _ _=>(dQ l).2.2=0/\dG (dQ l).1/\bV.v (bV.e (dQ l).1)) fun _ l _ _ _=> .io [1000,1001,1003] (sZ (dQ l).1) [Ah (0,0,0,0,0)]
theorem aCX:Ok Tryz.prog 32 aON:=fun zs r hr=>by
 obtain ⟨-,l,-,-,-,rfl,-,-,-,-,-,⟨g1,g2,g3⟩,rfl⟩:=Rv hr
 obtain ⟨t,n,k,hP⟩ : ∃ t n k,dQ l=(t,n,k):=⟨_,_,_,rfl⟩
 rw [hP] at g1 g2 g3 ⊢
 have g1:k=0:=g1
 subst g1
 have hp:bV.p t:=by
  obtain ⟨h1,h2⟩:=bV.some g3
  have:bV.t (bV.e t)=t:=by cases t;simp
  rw [this] at h2
  exact h2
 exact .inr (.inr (.inr ⟨aNS,[.c (.p 1003 0),.c (.r .u8 (nb l))],wI,[1000,1001,1003],_,_,rfl,rfl,rfl,aC4 hP hp g2⟩))
end Go.Proofs.YtfcbohachbeamaaGreatDoor.E
end
section
namespace Go.Proofs.YtfcbohachbeamaaGreatDoor.E
open Go.VC Go.RowKit
structure Rq where
 k:Int
 sc:Int
 to:Int
 n:Int
 l:Int×Int×Int
 pick:Int
 lax:Bool
 f:Int
 c:Int
 g:Int
 data:AC
 pv:Int
 st:Int
 ot:Int×Int×Int
abbrev Xt (r:Rq):List AC:= [.v (.int .i64 r.k),.v (.int .i64 r.sc),.v (.int .i64 r.to),.v (.int .i64 (aQ r.n)),.v (.int .u64 (aT r.n)),.v (.int .i64 r.l.1),.v (.int .i64 r.l.2.1),.v (.int .i64 r.l.2.2),.v (.int .i64 r.pick),.v (.bool r.lax),.v (.int .i64 r.f),.v (.int .i64 r.c),.v (.int .i64 r.g),r.data,.v (.int .i64 (aQ r.pv)),.v (.int .u64 (aT r.pv)),.v (.int .i64 (aQ r.st)),.v (.int .u64 (aT r.st)),.v (.int .i64 r.ot.1),.v (.int .i64 r.ot.2.1),.v (.int .i64 r.ot.2.2)]
def vRq:AP->Prop
 | .g [a0,a1,a2,a3,a4,a5,a6,a7,a8,a9,a10,a11,a12,a13,a14,a15,a16,a17,a18,a19,a20]=>
  vI (.c a0)=true/\vI (.c a1)=true/\vI (.c a2)=true/\vW (.g [a3,a4])=true/\sB (.g [a5,a6,a7])=true/\vI (.c a8)=true/\qJ.v (.c a9)/\vI (.c a10)=true/\vI (.c a11)=true/\vI (.c a12)=true/\(a13.known=true/\(AP.c a13).free=true)/\vW (.g [a14,a15])=true/\vW (.g [a16,a17])=true/\sB (.g [a18,a19,a20])=true
 | _=>False
def tRq:AP->Rq
 | .g [a0,a1,a2,a3,a4,a5,a6,a7,a8,a9,a10,a11,a12,a13,a14,a15,a16,a17,a18,a19,a20]=>
  ⟨tI (.c a0),tI (.c a1),tI (.c a2),tW (.g [a3,a4]),xQ (.g [a5,a6,a7]),tI (.c a8),qJ.t (.c a9),tI (.c a10),tI (.c a11),tI (.c a12),a13,tW (.g [a14,a15]),tW (.g [a16,a17]),xQ (.g [a18,a19,a20])⟩
 | _=>⟨0,0,0,0,(0,0,0),0,false,0,0,0,.u,0,0,(0,0,0)⟩
open Classical in
noncomputable def Cv:Co Rq where
 e r:= .g (Xt r)
 p r:=(-0x8000000000000000<=r.k/\r.k<0x8000000000000000)/\(-0x8000000000000000<=r.sc/\r.sc<0x8000000000000000)/\(-0x8000000000000000<=r.to/\r.to<0x8000000000000000)/\(-0x80000000000000000000000000000000<=r.n/\r.n<0x80000000000000000000000000000000)/\lI r.l/\(-0x8000000000000000<=r.pick/\r.pick<0x8000000000000000)/\(-0x8000000000000000<=r.f/\r.f<0x8000000000000000)/\(-0x8000000000000000<=r.c/\r.c<0x8000000000000000)/\(-0x8000000000000000<=r.g/\r.g<0x8000000000000000)/\(r.data.known=true/\(AP.c r.data).free=true)/\(-0x80000000000000000000000000000000<=r.pv/\r.pv<0x80000000000000000000000000000000)/\(-0x80000000000000000000000000000000<=r.st/\r.st<0x80000000000000000000000000000000)/\lI r.ot
 v:=vRq
 dv _:=propDecidable _
 t:=tRq
 some {a} h:=by
  match a,h with
  | .g [a0,a1,a2,a3,a4,a5,a6,a7,a8,a9,a10,a11,a12,a13,a14,a15,a16,a17,a18,a19,a20],h=>
   obtain ⟨h0,h1,h2,h3,h4,h5,h6,h7,h8,h9,h10,h11,h12,h13⟩:=h
   obtain ⟨e0,p0⟩:=bF.some h0
   obtain ⟨e1,p1⟩:=bF.some h1
   obtain ⟨e2,p2⟩:=bF.some h2
   obtain ⟨e3,p3⟩:=bN.some h3
   obtain ⟨e4,p4⟩:=dV.some h4
   obtain ⟨e5,p5⟩:=bF.some h5
   obtain ⟨e6,-⟩:=qJ.some h6
   obtain ⟨e7,p7⟩:=bF.some h7
   obtain ⟨e8,p8⟩:=bF.some h8
   obtain ⟨e9,p9⟩:=bF.some h9
   obtain ⟨e11,p11⟩:=bN.some h11
   obtain ⟨e12,p12⟩:=bN.some h12
   obtain ⟨e13,p13⟩:=dV.some h13
   refine ⟨?_,p0,p1,p2,p3,p4,p5,p7,p8,p9,h10,p11,p12,p13⟩
   simp only [Xh,Tl,Le,Tn,Yw,AP.c.injEq,AP.g.injEq,List.cons.injEq,and_true] at e0 e1 e2 e3 e4 e5 e6 e7 e8 e9 e11 e12 e13
   obtain ⟨e3,e3'⟩:=e3
   obtain ⟨e4,e4',e4''⟩:=e4
   obtain ⟨e11,e11'⟩:=e11
   obtain ⟨e12,e12'⟩:=e12
   obtain ⟨e13,e13',e13''⟩:=e13
   simp only [AP.g.injEq,List.cons.injEq,and_true]
   exact ⟨e0,e1,e2,e3,e3',e4,e4',e4'',e5,e6,e7,e8,e9,rfl,e11,e11',e12,e12',e13,e13',e13''⟩
 enc {x} h:=by
  obtain ⟨p0,p1,p2,p3,p4,p5,p7,p8,p9,pQ,p11,p12,p13⟩:=h
  refine ⟨⟨(bF.enc p0).1,(bF.enc p1).1,(bF.enc p2).1,(bN.enc p3).1,(dV.enc p4).1,(bF.enc p5).1,by simp,(bF.enc p7).1,(bF.enc p8).1,(bF.enc p9).1,pQ,(bN.enc p11).1,(bN.enc p12).1,(dV.enc p13).1⟩,?_⟩
  obtain ⟨k,sc,to,n,l,pick,lax,f,c,g,data,pv,st,ot⟩:=x
  have q3:tW (.g [.v (.int .i64 (aQ n)),.v (.int .u64 (aT n))])=n:=(bN.enc p3).2
  have q11:tW (.g [.v (.int .i64 (aQ pv)),.v (.int .u64 (aT pv))])=pv:=(bN.enc p11).2
  have q12:tW (.g [.v (.int .i64 (aQ st)),.v (.int .u64 (aT st))])=st:=(bN.enc p12).2
  show Rq.mk k sc to (tW _) l pick lax f c g data (tW _) (tW _) ot=_
  rw [q3,q11,q12]
theorem aB5 {r:Rq} : Cv.e r = .g (Xt r):=_root_.id rfl
theorem aKx {a0 a1 a2 a3 a4 a5 a6 a7 a8 a9 a10 a11 a12 a13 a14 a15 a16 a17 a18 a19 a20:AC} : Cv.v (.g [a0,a1,a2,a3,a4,a5,a6,a7,a8,a9,a10,a11,a12,a13,a14,a15,a16,a17,a18,a19,a20]) =
 (vI (.c a0)=true/\vI (.c a1)=true/\vI (.c a2)=true/\vW (.g [a3,a4])=true/\sB (.g [a5,a6,a7])=true/\vI (.c a8)=true/\qJ.v (.c a9)/\vI (.c a10)=true/\vI (.c a11)=true/\vI (.c a12)=true/\(a13.known=true/\(AP.c a13).free=true)/\vW (.g [a14,a15])=true/\vW (.g [a16,a17])=true/\sB (.g [a18,a19,a20])=true):=_root_.id rfl
theorem aDT {a0 a1 a2 a3 a4 a5 a6 a7 a8 a9 a10 a11 a12 a13 a14 a15 a16 a17 a18 a19 a20:AC} : Cv.t (.g [a0,a1,a2,a3,a4,a5,a6,a7,a8,a9,a10,a11,a12,a13,a14,a15,a16,a17,a18,a19,a20]) =
 ⟨tI (.c a0),tI (.c a1),tI (.c a2),tW (.g [a3,a4]),xQ (.g [a5,a6,a7]),tI (.c a8),qJ.t (.c a9),tI (.c a10),tI (.c a11),tI (.c a12),a13,tW (.g [a14,a15]),tW (.g [a16,a17]),xQ (.g [a18,a19,a20])⟩:=_root_.id rfl
theorem aQC {r:Rq} : Cv.p r=((-0x8000000000000000<=r.k/\r.k<0x8000000000000000)/\(-0x8000000000000000<=r.sc/\r.sc<0x8000000000000000)/\(-0x8000000000000000<=r.to/\r.to<0x8000000000000000)/\(-0x80000000000000000000000000000000<=r.n/\r.n<0x80000000000000000000000000000000)/\lI r.l/\(-0x8000000000000000<=r.pick/\r.pick<0x8000000000000000)/\(-0x8000000000000000<=r.f/\r.f<0x8000000000000000)/\(-0x8000000000000000<=r.c/\r.c<0x8000000000000000)/\(-0x8000000000000000<=r.g/\r.g<0x8000000000000000)/\(r.data.known=true/\(AP.c r.data).free=true)/\(-0x80000000000000000000000000000000<=r.pv/\r.pv<0x80000000000000000000000000000000)/\(-0x80000000000000000000000000000000<=r.st/\r.st<0x80000000000000000000000000000000)/\lI r.ot):=_root_.id rfl
attribute [simp] aB5 aKx aDT aQC
end Go.Proofs.YtfcbohachbeamaaGreatDoor.E
end
section
namespace Go.Proofs.YtfcbohachbeamaaGreatDoor.E
open Go.VC Go.RowKit
def sI (es:List En) (o:Option (List Pc)) (x:Int) (r:Rq):Rs:=
 if r.k=2 then cv es o x (r.pick,r.lax) (r.sc,r.n,r.l) r.to else if r.k=5 then ad es o x (r.pick,r.lax) (r.sc,r.n,r.l) r.st else df es o x (r.pick,r.lax) (r.sc,r.n,r.l) r.ot
noncomputable abbrev aPB:=s5 (fR (.c (.p 1003 0))) Cv dF hJ (fR (.g (gG (.p 1001 0)))) (fun _ r _ _ _=>r.k=2∨r.k=5∨r.k=6) fun _ r t c _=> .io [1000,1001,1003] [.g (aW t),.g (aK c),.g (gG (.p 1001 0))] [Ah (sI t.es c.2 c.1 r)]
theorem Y4:Ok Tryz.prog 13 aPB:=xU (aG Tryz.func13 nN.ent nN.aA (aB Wt (aB (J0 (c:= .p 1001 0) rfl) (aB aMS (aB aCE (aB aOY aH)))))) [1000,1001,1003] [(1000,1000),(1001,1001),(1003,1003)] 2 rfl rfl rfl rfl rfl (by simp [nN.c]) fun _ r t c _ _ hr ht hc _ hg=>by
 obtain ⟨x,o⟩:=c
 replace ht:cC t:=ht
 replace hc:iZ (x,o):=hc
 have v1:=kC hc
 have v2:=jX hc
 obtain ⟨k,sc,to,n,⟨d,s,a⟩,pick,lax,f,cc,g,data,pv,st,⟨d',s',a'⟩⟩:=r
 simp at hr
 obtain ⟨p0,p1,p2,p3,⟨p4,p4',p4''⟩,p5,p7,p8,p9,⟨pQ,p10'⟩,p11,p12,p13,p13',p13''⟩:=hr
 have hg:k=2∨k=5∨k=6:=hg
 refine ⟨⟨_,_,rfl⟩,0,?_⟩
 rcases hg with rfl | rfl | rfl
 ·cases o<;>simp only [aF] at v1 v2<;>simp [nN.c,bK,aK,aF,gG,rP,aN,ht,v1,v2,p1,p2,p3,p4,p4',p4'',p5,pQ,sI]
 ·cases o<;>simp only [aF] at v1 v2<;>simp [nN.c,bK,aK,aF,gG,rP,aN,ht,v1,v2,p1,p2,p3,p4,p4',p4'',p5,pQ,p12,sI]
 ·cases o<;>simp only [aF] at v1 v2<;>simp [nN.c,bK,aK,aF,gG,rP,aN,ht,v1,v2,p1,p2,p3,p4,p4',p4'',p5,pQ,p13,p13',p13'',sI]
end Go.Proofs.YtfcbohachbeamaaGreatDoor.E
end
section
namespace Go.VC
open Go.RowKit
theorem aK7 {α : Type} {P:Program} {sp:Spec} {f:Nat} {sf:SF} {c1:Co α} {G : α -> Prop} [∀ x,Decidable (G x)] {R : α -> AV} (C:Code P sp f sf) (ns:List Nat) (ex:List (Nat×Nat)) (na:Nat) (hl:1=na+ns.length) (hns:ns.all (fun n=>decide (1000<=n))=true) (he1:nodup (ex.map (·.1))=true) (he2:nodup (ex.map (·.2))=true) (he3:(ex.map (·.2)).all (fun n=>ns.contains n)=true) (hna:na<=sf.ntmps)
 (h : ∀ x,c1.p x->G x->(∃ outs l,R x = .io ns outs l) /\ ∃ k,bY sp k sf.code (nQ ([c1.e x].take na) ns ([c1.e x].drop na)) (rY sf ns ([c1.e x].drop na) ex (R x))):Ok P f (s1 c1 G R):=
 Da C ns ex na hns he1 he2 he3 hna fun zs r hr=>by
  obtain ⟨x,rfl,h1,hg,rfl⟩:=pO hr
  exact ⟨hl,h x h1 hg⟩
end Go.VC
namespace Go.Proofs.YtfcbohachbeamaaGreatDoor.E
open Go.VC Go.RowKit
def Cs:List AC:= [.v (.int .i32 0),.v (.int .u32 0),.v (.int .u32 0),.v (.int .u32 0),.v (.int .i32 0),.v (.int .i32 0),.v (.pointer none),.v (.int .i64 0)]
noncomputable abbrev aNj:=s1 (fR (.c .u)) dX fun _=> .io [1003] [.g Cs] [.c (.p 1003 0)]
theorem aQj:Ok Tryz.prog 27 aNj:=aK7 (aG Tryz.func27 Ec.ent Ec.aA aH) [1003] [(2,1003)] 0 rfl rfl rfl rfl rfl (by simp [Ec.c]) fun _ _ _=>by
 refine ⟨⟨_,_,rfl⟩,0,?_⟩
 simp [Ec.c,Cs]
noncomputable abbrev aEu:=s5 (fR (.c (.p 1003 0))) Cv (fR (.c .u)) (fR (.c .u)) (fR (.g Cs)) (fun _ r _ _ _=>r.k=1/\jJ.v (.c r.data)/\(dQ (jJ.t (.c r.data))).2.2=0/\dG (dQ (jJ.t (.c r.data))).1/\bV.v (bV.e (dQ (jJ.t (.c r.data))).1)) fun _ r _ _ _=> .io [1000,1001,1003] (sZ (dQ (jJ.t (.c r.data))).1) [Ah (0,0,0,0,0)]
theorem aB9:Ok Tryz.prog 13 aEu:=xU (aG Tryz.func13 nN.ent nN.aA (aB Wt (aB (J0 (c:= .v (.pointer none)) rfl) (aB aCX aH)))) [1000,1001,1003] [(900,1000),(901,1001),(1003,1003)] 2 rfl rfl rfl rfl rfl (by simp [nN.c]) fun _ r _ _ _ _ hr _ _ _ hg=>by
 obtain ⟨k,sc,to,n,⟨d,s,a⟩,pick,lax,f,cc,g,data,pv,st,⟨d',s',a'⟩⟩:=r
 simp at hr
 obtain ⟨p0,p1,p2,p3,⟨p4,p4',p4''⟩,p5,p7,p8,p9,⟨pQ,p10'⟩,p11,p12,p13,p13',p13''⟩:=hr
 obtain ⟨hk,g1,g2,g3,g4⟩:=hg
 have hk:k=1:=hk
 subst hk
 obtain ⟨e1,-⟩:=jJ.some g1
 dsimp only at *
 have e1:data = .r .u8 (nb (jJ.t (.c data))):=by
  have:=congrArg AP.cells e1
  simpa [AP.cells,aBw] using this
 obtain ⟨l,hl⟩ : ∃ l,jJ.t (.c data)=l:=⟨_,rfl⟩
 rw [hl] at e1 g2 g3 g4
 subst e1
 have hT:Gp (.c (.r .u8 (nb l)))=l:=Wb
 have hV:Gb (.c (.r .u8 (nb l)))=true:=Qr
 obtain ⟨t,n0,k0,hP⟩ : ∃ t n k,dQ l=(t,n,k):=⟨_,_,_,rfl⟩
 rw [hP] at g2 g3 g4
 have g2:k0=0:=g2
 have g3:dG t:=g3
 have g4:bV.v (bV.e t):=g4
 subst g2
 simp at g4
 refine ⟨⟨_,_,rfl⟩,0,?_⟩
 have hi:bD t.u/\bD t.x:=⟨g4.1,g4.2.1⟩
 obtain ⟨o,ho⟩ : ∃ o,oR t.es=o:=⟨_,rfl⟩
 cases o with
 | none=>simp [nN.c,Cs,gG,rP,p1,p2,p3,p4,p4',p4'',p5,It,Ip,hT,hV,hP,g3,g4,aK,ho,aF];exact hi
 | some R=>simp [nN.c,Cs,gG,rP,p1,p2,p3,p4,p4',p4'',p5,It,Ip,hT,hV,hP,g3,g4,aK,ho,aF];exact hi
end Go.Proofs.YtfcbohachbeamaaGreatDoor.E
end
section
namespace Go.Proofs.YtfcbohachbeamaaGreatDoor.E
open Go.VC Go.RowKit Go.VC.Tx
theorem aPO (k:IntKind) (h:H5):h.cells k=cw k (H5.l h):=rfl
theorem F4 (h:H5):(H5.l h).length=5:=rfl
theorem aLe {h:H5} (ho:h.ok) : ∀ i,(H5.l h).getD i 0<4294967296:=by
 obtain ⟨h1,h2,h3,h4,h5⟩:=ho
 intro i
 rcases i with _ | _ | _ | _ | _ | i
 ·exact h1
 ·exact h2
 ·exact h3
 ·exact h4
 ·exact h5
 ·show (0:Nat)<_;decide
theorem aQG {sp:VC.Spec} {k:Nat} (h:H5) (ho:h.ok) (acc:List UInt8) (hacc:acc.length<=90000) (Q:AX->St->Prop) (n:Nat) (hk:8<k) (hn:5<n) (s:St)
 (t3:s.tm 3 = .o (gR acc)) (t5:s.tm 5 = .o (.c (.p 5 0))) (t6:s.tm 6 = .o (iv .i64 0)) (m5:s.mem 5=some (h.cells .i64))
 (hQ : ∀ s',s'.tm 3 = .o (gR (acc++cG (H5.l h)))->Q (.e 2) s'):pD sp k iD.l3 n s Q:=by
 have hl:=aLe ho
 rw [aPO] at m5
 have hlen:=F4 h
 generalize H5.l h=W at *
 refine iO (fun i s'=>s'.tm 3 = .o (gR (acc++cG (W.take i)))/\s'.tm 5 = .o (.c (.p 5 0))/\s'.tm 6 = .o (iv .i64 (i:Int))/\s'.mem=s.mem) 5 ?_ ?_ n s hn ?_
 ·rintro i s' hi ⟨t3,t5,t6,hm⟩
  have m5':s'.mem 5=some (cw .i64 W):=by rw [hm];exact m5
  have h1:(i:Int)<5:=by omega
  have w1:IntKind.i64.wrap ((i:Int)+1)=(i:Int)+1:=aD (by omega) (by omega)
  have hwl:=Pf (W.take i)
  have htl:(W.take i).length<=5:=by rw [List.length_take];omega
  have hal:acc.length+(cG (W.take i)).length<=90045:=by omega
  have hal2:acc.length+(cG (W.take i)).length<=0x7ffffffffffffffe:=by omega
  have hts:W.take (i+1)=W.take i ++ [W.getD i 0]:=by
   rw [List.take_add_one,List.getD_eq_getElem?_getD,List.getElem?_eq_getElem (by omega)]
   rfl
  have hg:=rN .i64 W [] (i:=i) (by omega)
  rw [List.append_nil] at hg
  have hli:=hl i
  rw [hts,aAe]
  generalize cG (W.take i)=A at *
  generalize W.getD i 0=w at *
  simp only [iD.l3,fL,fC,fJ,fG]
  simp [t3,t6,h1,hal2]
  refine aJG (cw .i64 W) w i (acc++(A ++ [9])) (by rw [qY,hlen]) hi hg hli (by simp;omega) _ k hk _ (by simp) (by simp [t5]) (by simp [t6]) (by simp) (by simp [m5']) ?_
  rintro s2 u3 u5 u6 um
  have um:s2.mem=s'.mem:=um
  simp [u6,u3,u5,w1,um,hm,cG]
 ·rintro s' ⟨t3,t5,t6,hm⟩
  have:W.take 5=W:=List.take_of_length_le (by omega)
  rw [this] at t3
  simp [iD.l3,t6]
  exact hQ _ (by simp [t3])
 ·exact ⟨by simpa [cG] using t3,t5,by simpa using t6,rfl⟩
abbrev aOf:=s1 bV dG fun t=> .o (gR (mM t))
theorem aLL:Ok Tryz.prog 29 aOf:=cA (aG Tryz.func29 iD.ent iD.aA (aB W1 (aB aDl (aB aLG aH)))) (by simp [iD.c]) fun t ht hm=>by
 have hlen:=Df hm
 have hdl:=Nx ht hm
 have hsum:kX t=oT (jZ t):=by rw [kX,if_pos hm]
 have hpr:mM t=35::36::9::(Lib.itoa t.u++10::35::64::9::(Lib.itoa t.x++10::(kM t.es++35::104::(cG (H5.l (oT (jZ t))) ++ [10])))):=by rw [mM,hsum]
 have hok:=Uc (jZ t)
 have hel:=Tc ht.2.2
 rw [hpr]
 clear hpr hsum
 have hdl2:(jZ t).length<=1000000:=by omega
 have hm':=hm
 obtain ⟨u,x,es⟩:=t
 obtain ⟨⟨u1,u2⟩,⟨x1,x2⟩,hes⟩:=ht
 obtain ⟨hb,-,⟨u3,u4⟩,x3,x4⟩:=hm
 simp only at u1 u2 x1 x2 hes hlen hb u3 u4 x3 x4 hel
 have lu:=lX ⟨u1,u2⟩
 have lx:=lX ⟨x1,x2⟩
 have lu1:(Lib.itoa u).length<=0x7ffffffffffffffc:=by omega
 have lu2:(Lib.itoa u).length<=0x7ffffffffffffff8:=by omega
 have lxu:(Lib.itoa u).length+(Lib.itoa x).length<=0x7ffffffffffffff8:=by omega
 have lxu2:(Lib.itoa u).length+(Lib.itoa x).length<=0x7ffffffffffffff7:=by omega
 have ql:=Ae es
 refine ⟨es.length+10,?_⟩
 simp only [iD.c,fL,fC,fJ,fG]
 simp [u1,u2,x1,x2,u3,x3,lu1,lu2,lxu,lxu2]
 refine ⟨by omega,by omega,by omega,by omega,?_⟩
 obtain ⟨HD,hHD⟩ : ∃ HD,HD=35::36::9::(Lib.itoa u++10::35::64::9::(Lib.itoa x ++ [10])):=⟨_,rfl⟩
 have hhl:HD.length<=60:=by rw [hHD];simp;omega
 have hfin : ∀ r,35::36::9::(Lib.itoa u++10::35::64::9::(Lib.itoa x++10::(kM es++r)))=(HD++kM es)++r:=fun r=>by rw [hHD];simp
 rw [← hHD]
 refine lL (fun m s=> ∃ pre rest acc,es=pre++rest/\m=rest.length/\HD++kM es=acc++kM rest/\dS pre rest=none/\s.tm 1 = .o (.c (.p 1 0))/\s.tm 3 = .o (gR acc)/\s.tm 4 = .o (iv .i64 (pre.length:Int)) /\
  s.mem 1=some [.v (.int .i64 u),.v (.int .i64 x),.q 2 (qE es)]/\s.mem 5=none) ?_ _ es.length _ (by omega) ?_
 ·rintro m s ⟨pre,rest,acc,hsp,rfl,hd0,hbad,t1,t3,t4,m1,m5⟩
  cases rest with
  | nil=>
   have e1:pre.length=es.length:=by rw [hsp];simp
   simp only [kM,List.append_nil] at hd0
   have hal:acc.length<=3000:=by rw [← hd0,List.length_append];omega
   have hal2:acc.length<=0x7ffffffffffffffd:=by omega
   simp [iD.l1,t1,t3,t4,m1,m5,e1,ql,u1,u2,x1,x2,hes,hm',hdl2,aA2,hal2,H5.cells]
   refine ⟨⟨⟨u1,u2⟩,x1,x2⟩,?_⟩
   refine aQG (oT (jZ ⟨u,x,es⟩)) hok (acc ++ [35,104]) (by simp;omega) _ _ (by omega) (by omega) _ (by simp) (by simp) (by simp) (by simp [H5.cells]) ?_
   intro s2 u3
   have hwl:=Pf (H5.l (oT (jZ ⟨u,x,es⟩)))
   rw [F4] at hwl
   rw [hfin,hd0]
   generalize cG (H5.l (oT (jZ ⟨u,x,es⟩)))=W at *
   have hfl:acc.length+(W.length+1+1)<=0x7ffffffffffffffe:=by omega
   simp [u3,hfl]
  | cons e r=>
   obtain ⟨c,d⟩:=e
   have hce:bD c/\bD d:=by rw [hsp,xT] at hes;exact ⟨hes.2.1,hes.2.2.1⟩
   obtain ⟨i1,i2⟩:=hce
   obtain ⟨⟨c1,c2⟩,d1,d2⟩:bD c/\bD d:=⟨i1,i2⟩
   simp only [dS] at hbad
   have hk:cQ pre (c,d):=by
    by_cases h:cQ pre (c,d)
    ·exact h
    ·rw [if_neg h] at hbad;cases hbad
   rw [if_pos hk] at hbad
   have c3:0<=c:=hk.2.1.1
   have d3:0<=d:=hk.2.2.2.1.1
   have e0:es.length=pre.length+(r.length+1):=by rw [hsp];simp
   have e1:(pre.length:Int)<(es.length:Int):=by omega
   have hd:(qE es).drop (pre.length*2) = .v (.int .i64 c) :: .v (.int .i64 d)::qE r:=by rw [zR,hsp];simp [qE]
   have q0:(qE es).length=es.length*2:=iC es
   have q1:pre.length*2+2<=es.length*2:=by omega
   have w1:IntKind.i64.wrap ((pre.length:Int)+1)=(pre.length:Int)+1:=aD (by omega) (by omega)
   have hacc:acc.length<=3000:=by
    have:=congrArg List.length hd0
    rw [List.length_append,List.length_append] at this;omega
   have lc:=lX i1
   have ld:=lX i2
   have la:acc.length+(Lib.itoa c).length<=0x7ffffffffffffffe:=by omega
   have la2:acc.length+(Lib.itoa c).length<=0x7fffffffffffffff:=by omega
   have lb:acc.length+((Lib.itoa c).length+1)+(Lib.itoa d).length<=0x7ffffffffffffffe:=by omega
   have lb2:acc.length+((Lib.itoa c).length+1)+(Lib.itoa d).length<=0x7fffffffffffffff:=by omega
   have lb3:acc.length+((Lib.itoa c).length+((Lib.itoa d).length+1))<=0x7ffffffffffffffe:=by omega
   have lb4:acc.length+((Lib.itoa c).length+((Lib.itoa d).length+1))<=0x7fffffffffffffff:=by omega
   generalize hR:qE es=R at *
   simp [iD.l1,t1,t3,t4,m1,m5,e1,hd,q0,q1,ql,w1,c1,c2,d1,d2,c3,d3,la,la2,lb,lb2,lb3,lb4]
   refine ⟨by omega,by omega,?_⟩
   exact ⟨r.length,by omega,pre ++ [(c,d)],r,by rw [hsp];simp,rfl,acc++(Lib.itoa c++9::(Lib.itoa d ++ [10])),by rw [hd0];simp [kM],hbad,by simp,by simp⟩
 ·exact ⟨[],es,HD,rfl,rfl,rfl,hb,by simp,by simp,by simp,by simp,by simp⟩
theorem Ig : ∀ (a r:List UInt8),(10:UInt8) ∉ a->bT (a++10::r)=a::bT r
 | [],r,_=>by simp [bT]
 | c::a,r,h=>by
  have hc : ¬ c=10:=fun e=>h (by simp [e])
  have ih:=Ig a r (fun hm=>h (by simp [hm]))
  simp only [List.cons_append,bT,if_neg hc,ih]
theorem Nr {n:Int} (h:0<=n):(10:UInt8) ∉ Lib.itoa n:=aAl (Jj h) (by decide)
theorem aPu (w:Nat):(10:UInt8) ∉ gM w:=aAl (Ww w) (by decide)
theorem aSw : ∀ l,(10:UInt8) ∉ cG l
 | []=>by simp [cG]
 | w::r=>by
  have h1:=aPu w
  have h2:=aSw r
  simp [cG,h1,h2]
def iW (e:En):List UInt8:=Lib.itoa e.1++9::Lib.itoa e.2
theorem c8 : ∀ (es:List En) (r:List UInt8),(∀ e∈es,0<=e.1/\0<=e.2)->bT (kM es++r)=es.map iW++bT r
 | [],r,_=>rfl
 | e::es,r,h=>by
  obtain ⟨h1,h2⟩:=h e (by simp)
  have ih:=c8 es r (fun x hx=>h x (by simp [hx]))
  have hn:(10:UInt8) ∉ iW e:=by
   have a:=Nr h1
   have b:=Nr h2
   simp [iW,a,b]
  have:kM (e::es)++r=iW e++10::(kM es++r):=by simp [kM,iW]
  rw [this,Ig _ _ hn,ih]
  rfl
theorem aQk (t:bC) (hu:0<=t.u) (hx:0<=t.x) (he : ∀ e∈t.es,0<=e.1/\0<=e.2) :
 bT (mM t)=(35::36::9::Lib.itoa t.u)::(35::64::9::Lib.itoa t.x)::(t.es.map iW ++ [35::104::cG (H5.l (kX t))]):=by
 have e1:mM t=(35::36::9::Lib.itoa t.u)++10::((35::64::9::Lib.itoa t.x)++10::(kM t.es++((35::104::cG (H5.l (kX t)))++10 :: []))):=by simp [mM]
 have n1:(10:UInt8) ∉ (35::36::9::Lib.itoa t.u:List UInt8):=by simp [Nr hu]
 have n2:(10:UInt8) ∉ (35::64::9::Lib.itoa t.x:List UInt8):=by simp [Nr hx]
 have n3:(10:UInt8) ∉ (35::104::cG (H5.l (kX t)):List UInt8):=by simp [aSw]
 rw [e1,Ig _ _ n1,Ig _ _ n2,c8 _ _ he,Ig _ _ n3]
 rfl
theorem aDH:lU fD=Tx.dg:=by funext c;simp [lU,sV,Tx.dg]
theorem N6:lU fH=hg:=by
 funext c
 have h : ¬ fH=fD:=by decide
 simp only [lU]
 rw [if_neg h]
 rfl
theorem Sx {n:Int} (h:0<=n) {r:List UInt8} (hr : ∀ c s,r=c::s->Tx.dg c=false):tk fD (Lib.itoa n++r)=Lib.itoa n/\dk fD (Lib.itoa n++r)=r:=by
 unfold tk dk
 rw [aDH]
 exact Qv (Jj h) hr
theorem Sp {n:Int} (h:0<=n) (h2:n<0xde0b6b3a7640000):iY (Lib.itoa n):=⟨Lh h,aMm h h2,aJc h⟩
theorem Sd {n:Int} (h:0<=n):mY (Lib.itoa n)=n:=by unfold mY;rw [aNp h];rfl
theorem D8 {n k:Int} (h:0<=n) (h2:n<0xde0b6b3a7640000):tO k (9::Lib.itoa n)=some (k,n,0,jC):=by
 have t1:tr (9::Lib.itoa n)=Lib.itoa n:=by
  unfold tr
  rw [Uj _ _ (by decide)]
  have:=Xm h []
  simpa using this
 have t2:=Sx h (r:= []) (fun c s e=>by cases e)
 simp only [List.append_nil] at t2
 have t3:tr [] = []:=rfl
 have ho:one? (9::Lib.itoa n):=by
  unfold one?
  rw [t1,t2.1,t2.2,t3]
  exact ⟨by simp,Sp h h2,rfl⟩
 unfold tO
 rw [if_pos ho,t1,t2.1,Sd h]
theorem Hg (a b c d:UInt8) (l:List UInt8):Lib.hasPrefix (a::b::l) [c,d]=(decide (a=c)&&decide (b=d)):=by
 have e:Lib.hasPrefix (a::b::l) [c,d]=((c==a)&&((d==b)&&true)):=rfl
 rw [e]
 by_cases h1:a=c
 ·subst h1
  by_cases h2:b=d
  ·subst h2;simp
  ·have:(d==b)=false:=beq_eq_false_iff_ne.2 (Ne.symm h2)
   simp [this,h2]
 ·have:(c==a)=false:=beq_eq_false_iff_ne.2 (Ne.symm h1)
  simp [this,h1]
theorem aRH {n:Int} (h:0<=n) (h2:n<0xde0b6b3a7640000):bB (35::36::9::Lib.itoa n)=some (2,n,0,jC):=by
 unfold bB
 rw [if_pos (by rw [Hg];rfl)]
 exact D8 h h2
theorem aJn {n:Int} (h:0<=n) (h2:n<0xde0b6b3a7640000):bB (35::64::9::Lib.itoa n)=some (3,n,0,jC):=by
 unfold bB
 rw [if_neg (by rw [Hg];decide),if_pos (by rw [Hg];rfl)]
 exact D8 h h2
theorem aOp {n:Int} (h:0<=n) : ∃ c r,Lib.itoa n=c::r/\Tx.dg c=true:=by
 have h1:=Jj h
 have h2:=Lh h
 cases hh:Lib.itoa n with
 | nil=>exact absurd hh h2
 | cons c r=>
  rw [hh] at h1
  simp only [List.all_cons,Bool.and_eq_true] at h1
  exact ⟨c,r,rfl,h1.1⟩
theorem Qg {c:UInt8} {l p:List UInt8} (h:Tx.dg c=true) : ¬ Lib.hasPrefix (c::l) (35::p)=true:=by
 intro hp
 have:c=35:=by
  simp only [Lib.hasPrefix,List.isPrefixOf,Bool.and_eq_true,beq_iff_eq] at hp
  exact hp.1.symm
 subst this
 exact absurd h (by decide)
theorem aE5 {a b:Int} (ha:0<=a) (ha2:a<0xde0b6b3a7640000) (hb:0<=b) (hb2:b<0xde0b6b3a7640000):bB (iW (a,b))=some (5,a,b,jC):=by
 obtain ⟨c,r,hc,hd⟩:=aOp ha
 have hl:iW (a,b)=c::(r++9::Lib.itoa b):=by simp [iW,hc]
 have htr:tr (iW (a,b))=iW (a,b):=Xm ha _
 have hne : ¬ tr (iW (a,b)) = []:=by rw [htr,hl];simp
 have t1:=Sx ha (r:=9::Lib.itoa b) (fun c s e=>by cases e;decide)
 have e1:tk fD (iW (a,b))=Lib.itoa a:=t1.1
 have e2:mD (iW (a,b))=9::Lib.itoa b:=t1.2
 have e3:iK (iW (a,b))=Lib.itoa b:=by
  unfold iK
  rw [e2]
  unfold tr
  rw [Uj _ _ (by decide)]
  simpa using Xm hb []
 have t2:=Sx hb (r:= []) (fun c s e=>by cases e)
 simp only [List.append_nil] at t2
 have e4:tk fD (iK (iW (a,b)))=Lib.itoa b:=by rw [e3];exact t2.1
 have e5:mI (iW (a,b)) = []:=by unfold mI;rw [e3];exact t2.2
 have e6:kR (iW (a,b)) = []:=by unfold kR;rw [e5];rfl
 have hdata:data? (iW (a,b)):=by
  unfold data?
  rw [e1,e2,e4,e6,e3]
  exact ⟨Sp ha ha2,by simp,Sp hb hb2,.inl rfl⟩
 unfold bB
 rw [if_neg (by rw [hl];exact Qg hd),if_neg (by rw [hl];exact Qg hd),if_neg (by rw [hl];exact Qg hd),if_neg (by rw [hl] at hne ⊢;exact fun h=>h.elim (Qg hd) hne)]
 unfold Ko
 rw [if_pos hdata,e1,e4,Sd ha,Sd hb]
theorem aDa {d:Nat} (h:d<16):nZ (hx d)=(d:Int):=by
 unfold nZ
 rw [aBl h]
 split<;>split<;>omega
theorem aDd {w:Nat} (h:w<4294967296):cW (gM w)=(w:Int):=by
 have m (x:Nat):x%16<16:=Nat.mod_lt _ (by decide)
 simp only [cW,gM,sD,aDa (m _)]
 omega
theorem aIV (w:Nat) (l:List Nat):jD (cG (w::l))/\tk fH (tr (cG (w::l)))=gM w/\dk fH (tr (cG (w::l)))=cG l:=by
 have t1:tr (cG (w::l))=gM w++cG l:=by
  unfold tr
  rw [cG,Uj _ _ (by decide)]
  exact aEf w _
 have hn : ∀ c s,cG l=c::s->hg c=false:=fun c s e=>by
  cases l with
  | nil=>cases e
  | cons x l=>rw [cG] at e;cases e;decide
 have t2:=Qv (Ww w) hn
 have e1:tk fH (tr (cG (w::l)))=gM w:=by rw [t1];unfold tk;rw [N6];exact t2.1
 have e2:dk fH (tr (cG (w::l)))=cG l:=by rw [t1];unfold dk;rw [N6];exact t2.2
 refine ⟨⟨by rw [t1,cG];simp,?_⟩,e1,e2⟩
 rw [e1]
 exact ⟨by simp [gM],by rw [Vt];decide⟩
theorem J1 : ∀ (l:List Nat),(∀ w∈l,w<4294967296)->hK l.length (cG l)=true/\hR l.length (cG l) = []/\gL l.length (cG l)=l.map (fun (w:Nat)=>(w:Int))
 | [],_=>⟨rfl,rfl,rfl⟩
 | w::l,h=>by
  obtain ⟨h1,h2,h3⟩:=aIV w l
  obtain ⟨i1,i2,i3⟩:=J1 l (fun x hx=>h x (by simp [hx]))
  refine ⟨?_,?_,?_⟩
  ·simp only [List.length_cons,hK,h1,decide_true,Bool.true_and,h3,i1]
  ·simp only [List.length_cons,hR,if_pos h1,h3,i2]
  ·simp only [List.length_cons,gL,h2,h3,i3,List.map_cons,aDd (h w (by simp))]
theorem aNA {S:H5} (ho:S.ok):bB (35::104::cG (H5.l S))=some (4,0,0,(H5.l S).map fun (w:Nat)=>(w:Int)):=by
 have hw : ∀ w∈H5.l S,w<4294967296:=by
  obtain ⟨h1,h2,h3,h4,h5⟩:=ho
  intro w hw
  simp only [H5.l,List.mem_cons,List.not_mem_nil,or_false] at hw
  rcases hw with rfl | rfl | rfl | rfl | rfl<;>assumption
 obtain ⟨i1,i2,i3⟩:=J1 (H5.l S) hw
 have hlen:(H5.l S).length=5:=rfl
 rw [hlen] at i1 i2 i3
 unfold bB
 rw [if_neg (by rw [Hg];decide),if_neg (by rw [Hg];decide),if_pos (by rw [Hg];rfl)]
 unfold Hc
 show (if hK 5 (cG (H5.l S))=true/\tr (hR 5 (cG (H5.l S))) = [] then some ((4:Int),(0:Int),(0:Int),gL 5 (cG (H5.l S))) else none)=_
 rw [i1,i2,i3]
 rw [if_pos ⟨rfl,rfl⟩]
theorem Y6 {S:H5} (ho:S.ok) : ∀ (es:List En) (r:Rd) (i:Nat),dS r.es es=none->(∀ e∈es,(0<=e.1/\e.1<0xde0b6b3a7640000)/\0<=e.2/\e.2<0xde0b6b3a7640000)->r.at_ 4=0 -> ∃ f,nG r i (es.map iW ++ [35::104::cG (H5.l S)])=(⟨r.u,r.x,r.es++es,(H5.l S).map fun (w:Nat)=>(w:Int),f⟩,none)/\f 2=r.at_ 2/\f 3=r.at_ 3/\f 4≠0/\(es ≠ []∨r.at_ 5≠0->f 5≠0)
 | [],r,i,_,_,h4=>by
  refine ⟨fun j=>if j=4 then (i:Int)+1 else r.at_ j,?_,rfl,rfl,by simp;omega,fun h=> ?_⟩
  ·simp only [List.map_nil,List.nil_append,nG,aNA ho,bM]
   simp [h4]
  ·rcases h with h | h
   ·exact absurd rfl h
   ·simpa using h
 | e::es,r,i,hb,hr,h4=>by
  obtain ⟨a,b⟩:=e
  obtain ⟨⟨a0,a1⟩,b0,b1⟩:=hr (a,b) (by simp)
  simp only [dS] at hb
  split at hb
  ·rename_i he
   obtain ⟨f,f1,f2,f3,f4,f5⟩:=Y6 ho es { r with at_:=fun j=>if j=5 then (i:Int)+1 else r.at_ j,es:=r.es ++ [(a,b)] } (i+1) hb (fun x hx=>hr x (by simp [hx])) (by simpa using h4)
   have hadd:bM r (some (5,a,b,jC)) ((i:Int)+1)=({ r with at_:=fun j=>if j=5 then (i:Int)+1 else r.at_ j,es:=r.es ++ [(a,b)] },0):=by simp [bM,he]
   refine ⟨f,?_,by simpa using f2,by simpa using f3,f4,fun _=>f5 (.inr (by simp;omega))⟩
   simp only [List.map_cons,List.cons_append,nG,aE5 a0 a1 b0 b1,hadd,if_true]
   rw [f1]
   simp
  ·cases hb
theorem aAj : ∀ {pre es:List En},dS pre es=none -> ∀ e∈es,(0<=e.1/\e.1<=1125899906842624)/\0<=e.2/\e.2<=1000
 | _,[],_,e,he=>by cases he
 | pre,x::es,h,e,he=>by
  simp only [dS] at h
  split at h
  ·rename_i hk
   rcases List.mem_cons.1 he with rfl | he
   ·exact ⟨hk.2.1,hk.2.2.2.1⟩
   ·exact aAj h e he
  ·cases h
theorem aJv {t:bC} (hp:bV.p t) (hm:dG t):(mM t).length<=65536:=by
 have h1:=lX hp.1
 have h2:=lX hp.2.1
 have h3:=Tc hp.2.2
 have h4:=Df hm
 have h5:=Pf (H5.l (kX t))
 have h6:(H5.l (kX t)).length=5:=rfl
 simp [mM]
 omega
theorem aGf {t:bC} (hp:bV.p t) (hm:dG t):dQ (mM t)=(t,0,0):=by
 have hlen:=aJv hp hm
 obtain ⟨u,x,es⟩:=t
 have hm':=hm
 obtain ⟨hb,hne,⟨u0,u1⟩,x0,x1⟩:=hm
 simp only at hb hne u0 u1 x0 x1
 have hrng:=aAj hb
 have hl:=aQk ⟨u,x,es⟩ u0 x0 (fun e he=>⟨(hrng e he).1.1,(hrng e he).2.1⟩)
 have ho:(kX ⟨u,x,es⟩).ok:=Uc _
 obtain ⟨f,f1,f2,f3,f4,f5⟩:=Y6 ho es ⟨u,x,[],[0,0,0,0,0],fun j=>if j=3 then 2 else if j=2 then 1 else 0⟩ 2 hb (fun e he=>by have:=hrng e he;omega) (by simp)
 have hrun:nG wR 0 (bT (mM ⟨u,x,es⟩))=(⟨u,x,es,(H5.l (kX ⟨u,x,es⟩)).map fun (w:Nat)=>(w:Int),f⟩,none):=by
  rw [hl]
  have a1:bM wR (some (2,u,0,jC)) (((0:Nat):Int)+1)=(⟨u,0,[],[0,0,0,0,0],fun j=>if j=2 then 1 else 0⟩,0):=by simp [bM,wR]
  have a2:bM ⟨u,0,[],[0,0,0,0,0],fun j=>if j=2 then 1 else 0⟩ (some (3,x,0,jC)) (((0+1:Nat):Int)+1)=(⟨u,x,[],[0,0,0,0,0],fun j=>if j=3 then 2 else if j=2 then 1 else 0⟩,0):=by simp [bM]
  rw [nG,aRH u0 u1,a1,if_pos rfl,nG,aJn x0 x1,a2,if_pos rfl]
  simpa using f1
 have g5:=f5 (.inl hne)
 have hcond : ¬ (f 2=0∨f 3=0∨f 4=0∨f 5=0):=by
  rw [f2,f3]
  simp [f4,g5]
 unfold dQ
 rw [if_neg (by omega),hrun]
 dsimp only
 rw [if_neg hcond,if_pos rfl]
end Go.Proofs.YtfcbohachbeamaaGreatDoor.E
end
