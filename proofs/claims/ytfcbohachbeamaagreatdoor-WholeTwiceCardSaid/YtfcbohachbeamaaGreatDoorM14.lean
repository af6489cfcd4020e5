/- What the laws' code answers: part 14 of what the rows of this seat lean on. -/
import Derived.Test.YtfcbohachbeamaaGreatDoorM13
import Derived.Laws.IdiomCopy
import Derived.Test.YtfcbohachbeamaaGreatDoorM9
import Derived.Test.YtfcbohachbeamaaGreatDoorM12
import Derived.Test.YtfcbohachbeamaaGreatDoorM8
set_option linter.unusedVariables false
set_option linter.unusedSimpArgs false
set_option maxHeartbeats 8000000
set_option maxRecDepth 100000
section
namespace Go.VC
open Go.RowKit
end Go.VC
namespace Go.Proofs.YtfcbohachbeamaaGreatDoor.E
open Go.VC Go.RowKit
def qM:List En->List QC
 | []=> []
 | e::r=> .v (.int .i64 (Tb.dE e)) :: .v (.int .i64 e.2) :: .v (.int .i64 (Tb.sE e))::qM r
theorem Iu : ∀ l,qM l=(cZ l).map QC.v
 | []=>rfl
 | e::r=>by simp [qM,cZ,Iu r]
theorem uC (l:List En):(qM l).length=l.length*3:=by rw [Iu,List.length_map,Th]
def cC (t:bC):Prop:=bV.p t/\dS [] t.es=none/\t.es ≠ []
def aW (t:bC):List AC:= [.v (.int .i64 t.u),.v (.int .i64 t.x),.q 2 (qE t.es),.v (.int .u32 1),.v (.int .i32 0),.v (.int .u32 0),.q 3 (qM t.es),.ik .i64]
def gE (t:bC):List AC:= [.v (.int .i64 t.u),.v (.int .i64 t.x),.q 2 (qE t.es),.v (.int .u32 0),.v (.int .i32 0),.v (.int .u32 0),.nil .u8,.v (.int .i64 0)]
def tL:AP->bC
 | .g (.v (.int _ u) :: .v (.int _ x) :: .q _ cs::_)=>⟨u,x,tQ cs⟩
 | _=>⟨0,0,[]⟩
theorem Gu (t:bC):tL (.g (aW t))=t:=by simp [aW,tL,Dd]
theorem Hf (t:bC):tL (.g (gE t))=t:=by simp [gE,tL,Dd]
open Classical in
noncomputable def dF:Co bC where
 e t:= .g (aW t)
 p t:=cC t
 v a:= ∃ t,cC t/\a = .g (aW t)
 dv a:=Classical.propDecidable _
 t:=tL
 some {a} h:=by
  obtain ⟨t,h1,rfl⟩:=h
  rw [Gu]
  exact ⟨rfl,h1⟩
 enc {t} h:=⟨⟨t,h,rfl⟩,Gu t⟩
open Classical in
noncomputable def Oj:Co bC where
 e t:= .g (gE t)
 p t:=cC t
 v a:= ∃ t,cC t/\a = .g (gE t)
 dv a:=Classical.propDecidable _
 t:=tL
 some {a} h:=by
  obtain ⟨t,h1,rfl⟩:=h
  rw [Hf]
  exact ⟨rfl,h1⟩
 enc {t} h:=⟨⟨t,h,rfl⟩,Hf t⟩
theorem aD8 {t:bC} : dF.e t = .g (aW t):=_root_.id rfl
theorem aGb {t:bC} : Oj.e t = .g (gE t):=_root_.id rfl
theorem aKj {t:bC} : dF.p t=cC t:=_root_.id rfl
theorem aN {t:bC} : dF.v (.g (aW t))=cC t:=by
 apply propext
 constructor
 ·rintro ⟨t',h,he⟩
  have:=congrArg tL he
  rw [Gu,Gu] at this
  rw [this];exact h
 ·intro h;exact ⟨t,h,rfl⟩
theorem aNr {t:bC} : Oj.v (.g (gE t))=cC t:=by
 apply propext
 constructor
 ·rintro ⟨t',h,he⟩
  have:=congrArg tL he
  rw [Hf,Hf] at this
  rw [this];exact h
 ·intro h;exact ⟨t,h,rfl⟩
theorem aOr {t:bC} : dF.t (.g (aW t))=t:=Gu t
theorem aNE {t:bC} : Oj.t (.g (gE t))=t:=Hf t
theorem aNu {ρ : List (Nat×Nat)} {t:bC} : jI ρ (aW t)=some (aW t):=by simp [aW]
theorem aIH {ρ : List (Nat×Nat)} {t:bC} : jI ρ (gE t)=some (gE t):=by simp [gE]
theorem aI0 {L:aY} {w:World} {t:bC} {ys:List Value} (h:bE L w (aW t) ys) : ∃ ev mv n,ys=kD t.u t.x ev (.int .u32 1) (.int .i32 0) (.int .u32 0) mv (.int .i64 n) []/\nY L.S w 2 ev (qE t.es)/\nY L.S w 3 mv (qM t.es):=by
 rcases ys with _ | ⟨y0,_ | ⟨y1,_ | ⟨y2,_ | ⟨y3,_ | ⟨y4,_ | ⟨y5,_ | ⟨y6,_ | ⟨y7,_ | ⟨y8,ys⟩⟩⟩⟩⟩⟩⟩⟩⟩
 ·exact h.elim
 ·exact h.2.elim
 ·exact h.2.2.elim
 ·exact h.2.2.2.elim
 ·exact h.2.2.2.2.elim
 ·exact h.2.2.2.2.2.elim
 ·exact h.2.2.2.2.2.2.elim
 ·exact h.2.2.2.2.2.2.2.elim
 ·obtain ⟨h0,h1,h2,h3,h4,h5,h6,⟨n,h7⟩,-⟩:=h
  exact ⟨y2,y6,n,by rw [h0.1,h1.1,h3.1,h4.1,h5.1,h7];rfl,h2,h6⟩
 ·exact h.2.2.2.2.2.2.2.2.elim
theorem aDz {L:aY} {w:World} {t:bC} {ys:List Value} (h:bE L w (gE t) ys) : ∃ ev,ys=kD t.u t.x ev (.int .u32 0) (.int .i32 0) (.int .u32 0) (.slice none 0 0) (.int .i64 0) []/\nY L.S w 2 ev (qE t.es):=by
 rcases ys with _ | ⟨y0,_ | ⟨y1,_ | ⟨y2,_ | ⟨y3,_ | ⟨y4,_ | ⟨y5,_ | ⟨y6,_ | ⟨y7,_ | ⟨y8,ys⟩⟩⟩⟩⟩⟩⟩⟩⟩
 ·exact h.elim
 ·exact h.2.elim
 ·exact h.2.2.elim
 ·exact h.2.2.2.elim
 ·exact h.2.2.2.2.elim
 ·exact h.2.2.2.2.2.elim
 ·exact h.2.2.2.2.2.2.elim
 ·exact h.2.2.2.2.2.2.2.elim
 ·obtain ⟨h0,h1,h2,h3,h4,h5,h6,h7,-⟩:=h
  have h6:y6 = .slice none 0 0:=h6
  exact ⟨y2,by rw [h0.1,h1.1,h3.1,h4.1,h5.1,h6,h7.1];rfl,h2⟩
 ·exact h.2.2.2.2.2.2.2.2.elim
theorem F5:Enters Tryz.prog 119:=enters Tryz.func119 (by kernel_rfl) (by kernel_rfl)
noncomputable abbrev aGY:=s2 (cV 1000) dF eO fun _ t=> .io [1000] [.g (aW t)] [.c (.q 3 (qM t.es))]
theorem C3 {L:aY} {w:World} {n o:Nat} {vs:List Value} (h:cP L w [.c (.p n o)] vs):vs = [.pointer (some ⟨L.μ n,o,none⟩)]:=by
 rcases vs with _ | ⟨v,_ | ⟨u,vs⟩⟩
 ·exact h.elim
 ·rw [h.1.2]
 ·exact h.2.elim
theorem yC {n:Nat} {cs:List AC} : lk [n] [.g cs] n=some cs:=by simp [lk]
theorem Bk {n:Nat} {c:AP} {m:Nat} (h:lk [n] [c] m≠none):m=n:=by
 simp only [lk] at h
 by_cases hm:n=m
 ·exact hm.symm
 ·rw [if_neg hm] at h;exact absurd rfl h
theorem aOU:Ok Tryz.prog 119 aGY:=fun zs r hr=>by
 obtain ⟨x,t,rfl,-,ht,-,rfl⟩:=jF hr
 refine .inr (.inr (.inr ⟨F5,[.c (.p 1000 0)],[.g (aW t)],[1000],[.g (aW t)],[.c (.q 3 (qM t.es))],rfl,rfl,rfl,?_⟩))
 intro S w vs μ hS G hheld hinj hargs
 obtain ⟨hge,ys,zs,T,hheap,hrep⟩:=hheld 1000 _ yC
 obtain ⟨ev,mv,n,rfl,he,hm⟩:=aI0 hrep
 have hvs:=C3 hargs
 subst hvs
 refine (aRb (μ 1000) t.u t.x 1 ev (.int .i32 0) (.int .u32 0) mv (.int .i64 n) T zs w (by decide) hheap).mono ?_
 rintro e w' ⟨rfl,rfl⟩
 refine ⟨mv,μ,rfl,fun m h=>⟨h,rfl⟩,fun m h h0=>absurd h0 h,fun m cs h=>(hheld m cs h).2,hinj,hm,fF.refl _ _⟩
end Go.Proofs.YtfcbohachbeamaaGreatDoor.E
end
section
namespace Go.Proofs.YtfcbohachbeamaaGreatDoor.E
open Go.VC Go.RowKit
theorem Sz : ∀ {l pre:List En},dS pre l=none -> ∀ e∈l,(0<=e.1/\e.1<=1125899906842624)/\(e.1%86400=0)/\0<=e.2/\e.2<=1000
 | [],pre,_,e,he=>by cases he
 | a::r,pre,h,e,he=>by
  simp only [dS] at h
  by_cases hk:cQ pre a
  ·rw [if_pos hk] at h
   rcases List.mem_cons.1 he with rfl | he
   ·exact ⟨hk.2.1,hk.2.2.1,hk.2.2.2.1⟩
   ·exact Sz h e he
  ·rw [if_neg hk] at h;cases h
theorem Vc {t:bC} (h:cC t) : ∀ e∈t.es,(0<=e.1/\e.1<=1125899906842624)/\(e.1%86400=0)/\0<=e.2/\e.2<=1000:=Sz h.2.1
theorem b9 {t:bC} (h:cC t):t.es.length<=64:=by
 have:=aAh h.2.1 (by decide)
 simpa using this
theorem To : ∀ (l:List En) (j:Nat) (e:En),l[j]? = some e->(qE l)[j*2]? = some (.v (.int .i64 e.1))/\(qE l)[j*2+1]? = some (.v (.int .i64 e.2))
 | [],j,e,h=>by cases h
 | a::r,0,e,h=>by cases h;exact ⟨rfl,rfl⟩
 | a::r,j+1,e,h=>by
  have:=To r j e h
  have h2:(j+1)*2=j*2+1+1:=by omega
  rw [h2]
  exact this
theorem aGD {S:Nat->Prop} {w:World} {ev:Value} {es:List En} {b:Nat} (hS:S b) (hn:es ≠ []) (h:nY S w 2 ev (qE es)):Lk w ev es b:=by
 rcases h with ⟨rfl,h⟩ | ⟨g,o,n,c,rfl,h1,h2,h3,h4,h5⟩
 ·cases es with
  | nil=>exact absurd rfl hn
  | cons e r=>cases h
 ·rw [iC] at h1
  have hn':n=es.length:=by omega
  subst hn'
  refine ⟨some ⟨g,o,none⟩,c,rfl,fun j e he=>⟨g,o,rfl,fun hgb=>h3 (hgb ▸ hS),h4,?_,?_⟩⟩
  ·obtain ⟨v,k1,k2⟩:=h5 _ _ (To es j e he).1
   rw [k1,k2.1]
  ·obtain ⟨v,k1,k2⟩:=h5 _ _ (To es j e he).2
   rw [← Nat.add_assoc] at k1
   rw [k1,k2.1]
theorem aLr {S:Nat->Prop} {w w':World} {m:Nat} {b:Nat} {ev:Value} {es:List En} (hS:S b) (hs:w.heap.size<=w'.heap.size) (hk : ∀ k,k<w.heap.size->k≠b->w'.heap[k]? = w.heap[k]?) (h:nY S w m ev (qE es)):nY S w' m ev (qE es):=by
 rcases h with h | ⟨g,o,n,c,rfl,h1,h2,h3,h4,h5⟩
 ·exact .inl h
 ·refine .inr ⟨g,o,n,c,rfl,h1,h2,h3,by omega,fun j q hq=> ?_⟩
  obtain ⟨v,k1,k2⟩:=h5 j q hq
  have hg:w'.heap[g]? = w.heap[g]? := hk g h4 (fun e=>h3 (e ▸ hS))
  have hv:q.rep S w' v:=by
   have hq2:=List.mem_of_getElem? hq
   have : ∀ (l:List En) (q:QC),q∈qE l -> ∃ x,q = .v x:=by
    intro l
    induction l with
    | nil=>intro q hq;cases hq
    | cons a r ih=>
     intro q hq
     rcases List.mem_cons.1 hq with rfl | hq
     ·exact ⟨_,rfl⟩
     rcases List.mem_cons.1 hq with rfl | hq
     ·exact ⟨_,rfl⟩
     exact ih q hq
   obtain ⟨x,rfl⟩:=this es q hq2
   exact k2
  exact ⟨v,(World.cell?_of_block (a:=⟨g,o+j,none⟩) hg).trans k1,hv⟩
theorem E8 : ∀ (l:List En) (x:Value),x∈cZ l->x.oneCell'=true
 | [],x,h=>by cases h
 | e::r,x,h=>by
  simp only [cZ,List.mem_cons] at h
  rcases h with rfl | rfl | rfl | h
  ·rfl
  ·rfl
  ·rfl
  ·exact E8 r x h
theorem aE1 {S:Nat->Prop} {w0 w:World} {e:TypeId} {v:Value} {es:List En} (hS : ∀ b,S b->b<w0.heap.size) (h:w.ownsRow w0.heap.size e 3 v es.length (cZ es)):nY S w 3 v (qM es):=by
 rcases h.2 with ⟨rfl,h0⟩ | ⟨g,cap,cur,rfl,hb,hg,h1,h2,h3,h4⟩
 ·have:es = []:=List.eq_nil_of_length_eq_zero h0
  subst this
  exact .inl ⟨rfl,rfl⟩
 ·refine .inr ⟨g,0,es.length,cap,rfl,by rw [uC],h1,fun h=>by have:=hS g h;omega,(Array.getElem?_eq_some_iff.1 hg).1,fun j c hc=> ?_⟩
  rw [Iu,List.getElem?_map] at hc
  cases hv:(cZ es)[j]? with
  | none=>rw [hv] at hc;cases hc
  | some x=>
   rw [hv] at hc
   cases hc
   refine ⟨x,?_,rfl,E8 es x (List.mem_of_getElem? hv)⟩
   have hj:j<es.length*3:=by
    have:=(List.getElem?_eq_some_iff.1 hv).1
    rwa [Th] at this
   rw [← h4,List.getElem?_take,if_pos hj] at hv
   unfold World.cell?
   rw [hg]
   simpa using hv
noncomputable abbrev aEp:=s2 (cV 1000) Oj eO fun _ t=> .io [1000] [.g (aW t)] [.c (.q 3 (qM t.es))]
theorem aIF:Ok Tryz.prog 119 aEp:=fun zs r hr=>by
 obtain ⟨x,t,rfl,-,ht,-,rfl⟩:=jF hr
 refine .inr (.inr (.inr ⟨F5,[.c (.p 1000 0)],[.g (gE t)],[1000],[.g (aW t)],[.c (.q 3 (qM t.es))],rfl,rfl,rfl,?_⟩))
 intro S w vs μ hS G hheld hinj hargs
 obtain ⟨hge,ys,zs,T,hheap,hrep⟩:=hheld 1000 _ yC
 obtain ⟨ev,rfl,he⟩:=aDz hrep
 have hvs:=C3 hargs
 subst hvs
 have hb : μ 1000<w.heap.size:=(Array.getElem?_eq_some_iff.1 hheap).1
 have hSb:(own (cx S) μ (lk [1000] [.g (gE t)])).S (μ 1000):= .inr ⟨1000,by rw [yC];simp,rfl⟩
 have hSe : ∀ b,(own (cx S) μ (lk [1000] [.g (gE t)])).S b↔(own (cx S) μ (lk [1000] [.g (aW t)])).S b:=fun b=>by
  constructor
  ·rintro (h | ⟨n,h,rfl⟩)
   ·exact .inl h
   ·have:=Bk h;subst this;exact .inr ⟨1000,by rw [yC];simp,rfl⟩
  ·rintro (h | ⟨n,h,rfl⟩)
   ·exact .inl h
   ·have:=Bk h;subst this;exact .inr ⟨1000,by rw [yC];simp,rfl⟩
 have hSS:(own (cx S) μ (lk [1000] [.g (gE t)])).S=(own (cx S) μ (lk [1000] [.g (aW t)])).S:=funext fun b=>propext (hSe b)
 rw [hSS] at he hSb
 have hSlt : ∀ b,(own (cx S) μ (lk [1000] [.g (aW t)])).S b->b<w.heap.size:=by
  rintro b (h | ⟨n,h,rfl⟩)
  ·exact (hS b h).1
  ·have:=Bk h;subst this;exact hb
 have hr : ∀ e∈t.es,(0<=e.1/\e.1<=1125899906842624)/\0<=e.2/\e.2<=1000:=fun e h=>⟨(Vc ht e h).1,(Vc ht e h).2.2⟩
 refine (aQi (μ 1000) t.u t.x ev (.int .u32 0) (.int .i64 0) T t.es zs w hheap (aGD hSb ht.2.2 he) (b9 ht) hr).mono ?_
 rintro e w' ⟨mv,rfl,hI,hc,hrow⟩
 have hmv:nY (own (cx S) μ (lk [1000] [.g (aW t)])).S w' 3 mv (qM t.es):=aE1 hSlt hrow
 have hev:nY (own (cx S) μ (lk [1000] [.g (aW t)])).S w' 2 ev (qE t.es):=aLr hSb hI.size hI.same he
 refine ⟨mv,μ,rfl,fun m h=> ?_,fun m h h0=> ?_,fun m cs h=> ?_,fun n m h1 h2 _=>(Bk h1).trans (Bk h2).symm,hmv,?_⟩
 ·have:=Bk h;subst this;exact ⟨by rw [yC];simp,rfl⟩
 ·have:=Bk h;subst this;rw [yC] at h0;cases h0
 ·have hm:m=1000:=Bk (by rw [h];simp)
  subst hm
  rw [yC] at h
  cases h
  exact ⟨kD t.u t.x ev (.int .u32 1) (.int .i32 0) (.int .u32 0) mv (.int .i64 0) [],zs,T,hc,⟨rfl,rfl⟩,⟨rfl,rfl⟩,hev,⟨rfl,rfl⟩,⟨rfl,rfl⟩,⟨rfl,rfl⟩,hmv,⟨0,rfl⟩,trivial⟩
 ·refine ⟨hI.os,hI.tape,hI.output,hI.size,fun k hk hx=>hI.same k hk (fun h=>hx ⟨1000,by rw [yC];simp,h.symm⟩),fun k hk=> ?_⟩
  by_cases h:k = μ 1000
  ·subst h
   unfold World.shape?
   rw [hc,hheap]
   simp [kD]
  ·unfold World.shape?
   rw [hI.same k hk h]
theorem Yg:Enters Tryz.prog 30:=enters Tryz.func30 (by kernel_rfl) (by kernel_rfl)
end Go.Proofs.YtfcbohachbeamaaGreatDoor.E
end
section
namespace Go.VC
open Go.RowKit
section
variable {α β γ δ ε : Type}
def s5 (c1:Co α) (c2:Co β) (c3:Co γ) (c4:Co δ) (c5:Co ε) (G : α -> β -> γ -> δ -> ε -> Prop) [∀ x y z u v,Decidable (G x y z u v)] (R : α -> β -> γ -> δ -> ε -> AV):List AP->Option AV
 | [a,b,c,d,e]=>if (c1.v a/\c2.v b/\c3.v c/\c4.v d/\c5.v e)/\G (c1.t a) (c2.t b) (c3.t c) (c4.t d) (c5.t e) then some (R (c1.t a) (c2.t b) (c3.t c) (c4.t d) (c5.t e)) else none
 | _=>none
section
variable {s:St} {K:AV->St->Prop} {ρ : List (Nat×Nat)}
theorem aJE {c1:Co α} {c2:Co β} {c3:Co γ} {c4:Co δ} {c5:Co ε} {G : α -> β -> γ -> δ -> ε -> Prop} [∀ x y z u v,Decidable (G x y z u v)] {R : α -> β -> γ -> δ -> ε -> AV} {a b c d e:AP} : jR (s5 c1 c2 c3 c4 c5 G R [a,b,c,d,e]) s K=(((c1.v a/\c2.v b/\c3.v c/\c4.v d/\c5.v e)/\G (c1.t a) (c2.t b) (c3.t c) (c4.t d) (c5.t e))/\rW (R (c1.t a) (c2.t b) (c3.t c) (c4.t d) (c5.t e)) s K):=Hx
theorem aCz {c1:Co α} {c2:Co β} {c3:Co γ} {c4:Co δ} {c5:Co ε} {G : α -> β -> γ -> δ -> ε -> Prop} [∀ x y z u v,Decidable (G x y z u v)] {R : α -> β -> γ -> δ -> ε -> AV} {a b c d e:AP} : mG (s5 c1 c2 c3 c4 c5 G R [a,b,c,d,e]) ρ s K=(((c1.v a/\c2.v b/\c3.v c/\c4.v d/\c5.v e)/\G (c1.t a) (c2.t b) (c3.t c) (c4.t d) (c5.t e))/\qH (R (c1.t a) (c2.t b) (c3.t c) (c4.t d) (c5.t e)) ρ s K):=Fy
end
attribute [simp] aJE aCz
variable {c1:Co α} {c2:Co β} {c3:Co γ} {c4:Co δ} {c5:Co ε} {r:AV}
theorem Rv {G : α -> β -> γ -> δ -> ε -> Prop} [∀ x y z u v,Decidable (G x y z u v)] {R : α -> β -> γ -> δ -> ε -> AV} {zs:List AP} (h:s5 c1 c2 c3 c4 c5 G R zs=some r) : ∃ x y z u v,zs = [c1.e x,c2.e y,c3.e z,c4.e u,c5.e v]/\c1.p x/\c2.p y/\c3.p z/\c4.p u/\c5.p v/\G x y z u v/\r=R x y z u v:=by
 unfold s5 at h
 split at h
 ·rename_i a b c d e
  split at h
  ·rename_i hg
   cases h
   obtain ⟨⟨v0,v1,v2,v3,v4⟩,hg⟩:=hg
   obtain ⟨e0,p0⟩:=c1.some v0
   obtain ⟨e1,p1⟩:=c2.some v1
   obtain ⟨e2,p2⟩:=c3.some v2
   obtain ⟨e3,p3⟩:=c4.some v3
   obtain ⟨e4,p4⟩:=c5.some v4
   exact ⟨_,_,_,_,_,by rw [← e0,← e1,← e2,← e3,← e4],p0,p1,p2,p3,p4,hg,rfl⟩
  ·cases h
 ·cases h
abbrev Cp {α β γ δ ε : Type} : α -> β -> γ -> δ -> ε -> Prop:=fun _ _ _ _ _=>True
def An:Co AP where
 e a:=a
 p _:=True
 v _:=True
 dv _:=inferInstance
 t a:=a
 some _:=⟨rfl,trivial⟩
 enc _:=⟨trivial,rfl⟩
theorem aJS {a:AP} : An.e a=a:=_root_.id rfl
theorem aJw {a:AP} : An.v a=True:=_root_.id rfl
theorem aQ9 {a:AP} : An.t a=a:=_root_.id rfl
theorem aQB {a:AP} : An.p a=True:=_root_.id rfl
def Ea:Co (List AC) where
 e a:= .g a
 p _:=True
 v a:=(match a with | .g _=>true | .c _=>false)=true
 dv _:=inferInstance
 t a:=match a with | .g l=>l | .c _=> []
 some {a} h:=by
  cases a with
  | g l=>exact ⟨rfl,trivial⟩
  | c a=>cases h
 enc _:=⟨rfl,rfl⟩
theorem aRt {a:List AC} : Ea.e a = .g a:=_root_.id rfl
theorem aO0 {a:List AC} : Ea.v (.g a)=True:=by simp [Ea]
theorem aFs {a:List AC} : Ea.t (.g a)=a:=_root_.id rfl
theorem aIz {a:List AC} : Ea.p a=True:=_root_.id rfl
open Classical in
noncomputable def fR (a:AP):Co Unit where
 e _:=a
 p _:=True
 v b:=b=a
 dv _:=propDecidable _
 t _:=()
 some h:=⟨h,trivial⟩
 enc _:=⟨rfl,rfl⟩
theorem aLn {a:AP} {x:Unit} : (fR a).e x=a:=_root_.id rfl
theorem Q3 {a b:AP} : (fR a).v b=(b=a):=_root_.id rfl
theorem aRg {a:AP} {x:Unit} : (fR a).p x=True:=_root_.id rfl
attribute [simp] aJS aJw aQ9 aQB aRt aO0 aFs aIz aLn Q3 aRg
section
variable {P:Program} {sp:Spec} {f:Nat} {sf:SF}
theorem Hy {G : α -> β -> Prop} [∀ x y,Decidable (G x y)] {R : α -> β -> AV} (C:Code P sp f sf) (ns:List Nat) (ex:List (Nat×Nat)) (na:Nat) (hl:2=na+ns.length) (hns:ns.all (fun n=>decide (1000<=n))=true) (he1:nodup (ex.map (·.1))=true) (he2:nodup (ex.map (·.2))=true) (he3:(ex.map (·.2)).all (fun n=>ns.contains n)=true) (hna:na<=sf.ntmps)
 (h : ∀ x y,c1.p x->c2.p y->G x y->(∃ outs l,R x y = .io ns outs l) /\ ∃ k,bY sp k sf.code (nQ ([c1.e x,c2.e y].take na) ns ([c1.e x,c2.e y].drop na)) (rY sf ns ([c1.e x,c2.e y].drop na) ex (R x y))):Ok P f (s2 c1 c2 G R):=
 Da C ns ex na hns he1 he2 he3 hna fun zs r hr=>by
  obtain ⟨x,y,rfl,h1,h2,hg,rfl⟩:=jF hr
  exact ⟨hl,h x y h1 h2 hg⟩
theorem nK {G : α -> β -> γ -> Prop} [∀ x y z,Decidable (G x y z)] {R : α -> β -> γ -> AV} (C:Code P sp f sf) (ns:List Nat) (ex:List (Nat×Nat)) (na:Nat) (hl:3=na+ns.length) (hns:ns.all (fun n=>decide (1000<=n))=true) (he1:nodup (ex.map (·.1))=true) (he2:nodup (ex.map (·.2))=true) (he3:(ex.map (·.2)).all (fun n=>ns.contains n)=true) (hna:na<=sf.ntmps)
 (h : ∀ x y z,c1.p x->c2.p y->c3.p z->G x y z->(∃ outs l,R x y z = .io ns outs l) /\ ∃ k,bY sp k sf.code (nQ ([c1.e x,c2.e y,c3.e z].take na) ns ([c1.e x,c2.e y,c3.e z].drop na)) (rY sf ns ([c1.e x,c2.e y,c3.e z].drop na) ex (R x y z))):Ok P f (s3 c1 c2 c3 G R):=
 Da C ns ex na hns he1 he2 he3 hna fun zs r hr=>by
  obtain ⟨x,y,z,rfl,h1,h2,h3,hg,rfl⟩:=Jt hr
  exact ⟨hl,h x y z h1 h2 h3 hg⟩
theorem tP {G : α -> β -> γ -> δ -> Prop} [∀ x y z u,Decidable (G x y z u)] {R : α -> β -> γ -> δ -> AV} (C:Code P sp f sf) (ns:List Nat) (ex:List (Nat×Nat)) (na:Nat) (hl:4=na+ns.length) (hns:ns.all (fun n=>decide (1000<=n))=true) (he1:nodup (ex.map (·.1))=true) (he2:nodup (ex.map (·.2))=true) (he3:(ex.map (·.2)).all (fun n=>ns.contains n)=true) (hna:na<=sf.ntmps)
 (h : ∀ x y z u,c1.p x->c2.p y->c3.p z->c4.p u->G x y z u->(∃ outs l,R x y z u = .io ns outs l) /\ ∃ k,bY sp k sf.code (nQ ([c1.e x,c2.e y,c3.e z,c4.e u].take na) ns ([c1.e x,c2.e y,c3.e z,c4.e u].drop na)) (rY sf ns ([c1.e x,c2.e y,c3.e z,c4.e u].drop na) ex (R x y z u))):Ok P f (s4 c1 c2 c3 c4 G R):=
 Da C ns ex na hns he1 he2 he3 hna fun zs r hr=>by
  obtain ⟨x,y,z,u,rfl,h1,h2,h3,h4,hg,rfl⟩:=Xo hr
  exact ⟨hl,h x y z u h1 h2 h3 h4 hg⟩
theorem xU {G : α -> β -> γ -> δ -> ε -> Prop} [∀ x y z u v,Decidable (G x y z u v)] {R : α -> β -> γ -> δ -> ε -> AV} (C:Code P sp f sf) (ns:List Nat) (ex:List (Nat×Nat)) (na:Nat) (hl:5=na+ns.length) (hns:ns.all (fun n=>decide (1000<=n))=true) (he1:nodup (ex.map (·.1))=true) (he2:nodup (ex.map (·.2))=true) (he3:(ex.map (·.2)).all (fun n=>ns.contains n)=true) (hna:na<=sf.ntmps)
 (h : ∀ x y z u v,c1.p x->c2.p y->c3.p z->c4.p u->c5.p v->G x y z u v->(∃ outs l,R x y z u v = .io ns outs l) /\ ∃ k,bY sp k sf.code (nQ ([c1.e x,c2.e y,c3.e z,c4.e u,c5.e v].take na) ns ([c1.e x,c2.e y,c3.e z,c4.e u,c5.e v].drop na)) (rY sf ns ([c1.e x,c2.e y,c3.e z,c4.e u,c5.e v].drop na) ex (R x y z u v))):Ok P f (s5 c1 c2 c3 c4 c5 G R):=
 Da C ns ex na hns he1 he2 he3 hna fun zs r hr=>by
  obtain ⟨x,y,z,u,v,rfl,h1,h2,h3,h4,h5,hg,rfl⟩:=Rv hr
  exact ⟨hl,h x y z u v h1 h2 h3 h4 h5 hg⟩
end
end
def rP:Option AC->Bool
 | some (.ik .i64)=>true
 | some (.v (.int .i64 _))=>true
 | _=>false
theorem aQg {L:aY} {w:World} {a:AC} {y:Value} (h:rP (some a)=true) (hr:a.rep L w y) : ∃ n,y = .int .i64 n:=by
 cases a with
 | ik k=>cases k<;>first | exact hr | cases h
 | v x=>cases x with
  | int k n=>cases k<;>first | exact ⟨n,hr.1⟩ | cases h
  | _=>cases h
 | _=>cases h
end Go.VC
namespace Go.Proofs.YtfcbohachbeamaaGreatDoor.E
open Go.VC Go.RowKit
theorem Za {bG outs:List AP} {ns:List Nat} {n:Nat} {cs:List AC} (hl:cs.length=8) (hi:rP cs[7]? = true) (hc:lk ns bG n=some cs) (ho : ∀ m,lk ns outs m=if m=n then some (cs.set 7 (.ik .i64)) else lk ns bG m) :
 wM Tryz.prog 30 [.c (.p n 7),.c (.v (.int .i64 1))] bG ns outs [.c (.ik .i64)]:=by
 intro S w vs μ hS G hheld hinj hargs
 obtain ⟨hge,ys,zs,T,hheap,hrep⟩:=hheld n cs hc
 have hly:ys.length=8:=by rw [← kP hrep];exact hl
 obtain ⟨a,ha⟩ : ∃ a,cs[7]? = some a:=⟨cs[7],List.getElem?_eq_getElem (by omega)⟩
 obtain ⟨y,hy,hay⟩:=Ga 7 hrep ha
 obtain ⟨k,rfl⟩:=aQg (by rw [← ha];exact hi) hay
 have hvs:vs = [.pointer (some ⟨μ n,7,none⟩),.int .i64 1]:=by
  rcases vs with _ | ⟨v,_ | ⟨u,_ | ⟨u',vs⟩⟩⟩
  ·exact hargs.elim
  ·exact hargs.2.elim
  ·rw [hargs.1.2,hargs.2.1.1];rfl
  ·exact hargs.2.2.elim
 subst hvs
 have hcell:w.cell? ⟨μ n,7,none⟩=some (.int .i64 k):=by
  unfold World.cell?
  rw [hheap]
  simp only [List.getElem?_toArray]
  rw [List.getElem?_append_left (by omega)]
  exact hy
 have hfz:w.frozen? ⟨μ n,7,none⟩=false:=by unfold World.frozen?;rw [hheap];simp
 have hb : μ n<w.heap.size:=(Array.getElem?_eq_some_iff.1 hheap).1
 refine (aQX ⟨μ n,7,none⟩ k 1 w hcell hfz).mono ?_
 rintro e w' ⟨rfl,hw⟩
 generalize hz:IntKind.i64.wrap (k+1)=z at *
 obtain ⟨q1,q2,q3,q4⟩:=qG [.int .i64 z] (μ n) 7 w (ys++zs) T hheap (by simp;omega)
 have hset:w.setCells (μ n) 7 [.int .i64 z]=w':=hw.symm
 rw [hset] at q1 q2 q3 q4
 have hD : ∀ m,lk ns outs m≠none↔lk ns bG m≠none:=fun m=>by
  rw [ho]
  by_cases h:m=n
  ·subst h;simp [hc]
  ·rw [if_neg h]
 have hSS:(own (cx S) μ (lk ns bG)).S=(own (cx S) μ (lk ns outs)).S:=funext fun b=>propext (by
  constructor
  ·rintro (h | ⟨m,h,rfl⟩)
   ·exact .inl h
   ·exact .inr ⟨m,(hD m).2 h,rfl⟩
  ·rintro (h | ⟨m,h,rfl⟩)
   ·exact .inl h
   ·exact .inr ⟨m,(hD m).1 h,rfl⟩)
 have hSn:(own (cx S) μ (lk ns bG)).S (μ n):= .inr ⟨n,by rw [hc];simp,rfl⟩
 have hext:Ext (own (cx S) μ (lk ns bG)) w (own (cx S) μ (lk ns outs)) w':=
  { D:=fun m h=>⟨(hD m).2 h,rfl⟩
    gF:=fun b hb1 hb2=>⟨q2 b (fun e=>hb1 (e ▸ hSn)),by rw [← hSS];exact hb1⟩
    size:=Nat.le_of_eq q3.symm
    mJ:=fun m h=>by
     by_cases hm : μ m = μ n
     ·show w'.shape? (μ m)=w.shape? (μ m)
      rw [hm]
      unfold World.shape?
      rw [q1,hheap]
      simp;omega
     ·show w'.shape? (μ m)=w.shape? (μ m)
      unfold World.shape?
      rw [q2 _ hm] }
 refine ⟨_,μ,rfl,fun m h=>⟨(hD m).2 h,rfl⟩,fun m h h0=>absurd h0 ((hD m).1 h),fun m xs h=> ?_,fun a b h1 h2 h3=>hinj a b ((hD a).1 h1) ((hD b).1 h2) h3,⟨z,rfl⟩,?_⟩
 ·rw [ho] at h
  by_cases hm:m=n
  ·subst hm
   rw [if_pos rfl] at h
   cases h
   refine ⟨ys.set 7 (.int .i64 z),zs,T,?_,?_⟩
   ·rw [q1]
    congr 3
    have e1:ys.set 7 (.int .i64 z)=ys.take 7 ++ [.int .i64 z]:=by
     rw [List.set_eq_take_append_cons_drop,if_pos (by omega)]
     congr 1
     rw [List.drop_eq_nil_of_le (by omega)]
    rw [e1,List.take_append_of_le_length (by omega)]
    congr 1
    rw [List.drop_append_of_le_length (by simp;omega),List.drop_eq_nil_of_le (by simp;omega)]
    rfl
   ·have e2:cs.set 7 (.ik .i64)=cs.take 7 ++ [.ik .i64]:=by
     rw [List.set_eq_take_append_cons_drop,if_pos (by omega)]
     congr 1
     rw [List.drop_eq_nil_of_le (by omega)]
    have e1:ys.set 7 (.int .i64 z)=ys.take 7 ++ [.int .i64 z]:=by
     rw [List.set_eq_take_append_cons_drop,if_pos (by omega)]
     congr 1
     rw [List.drop_eq_nil_of_le (by omega)]
    rw [e1,e2]
    exact vP (nB hext (oH 7 hrep)) ⟨⟨z,rfl⟩,trivial⟩
  ·rw [if_neg hm] at h
   obtain ⟨hge',ys',zs',T',hheap',hrep'⟩:=hheld m xs h
   have hne : μ m ≠ μ n:=fun e=>hm (hinj m n (by rw [h];simp) (by rw [hc];simp) e)
   exact ⟨ys',zs',T',(q2 _ hne).trans hheap',nB hext hrep'⟩
 ·refine ⟨q4.os,q4.tape,q4.output,Nat.le_of_eq q3.symm,fun b hb1 hx=>q2 b (fun e=>hx ⟨n,by rw [hc];simp,e.symm⟩),fun b hb1=> ?_⟩
  by_cases hm:b = μ n
  ·rw [hm]
   unfold World.shape?
   rw [q1,hheap]
   simp;omega
  ·unfold World.shape?
   rw [q2 _ hm]
noncomputable abbrev P2:=s3 (fR (.c (.p 1000 7))) (fR (.c (.v (.int .i64 1)))) Ea (fun _ _ cs=>cs.length=8/\rP cs[7]? = true) (fun _ _ cs=> .io [1000] [.g (cs.set 7 (.ik .i64))] [.c (.ik .i64)])
noncomputable abbrev aAm:=s5 (fR (.c (.p 1003 7))) (fR (.c (.v (.int .i64 1)))) An An Ea (fun _ _ _ _ cs=>cs.length=8/\rP cs[7]? = true) (fun _ _ x y cs=> .io [1000,1001,1003] [x,y,.g (cs.set 7 (.ik .i64))] [.c (.ik .i64)])
noncomputable def Xq:List AP->Option AV
 | [a,b,c]=>P2 [a,b,c]
 | [a,b,c,d,e]=>aAm [a,b,c,d,e]
 | _=>none
theorem aBi {a b c:AP} : Xq [a,b,c]=P2 [a,b,c]:=_root_.id rfl
theorem I8 {a b c d e:AP} : Xq [a,b,c,d,e]=aAm [a,b,c,d,e]:=_root_.id rfl
attribute [simp] aBi I8
theorem Wt:Ok Tryz.prog 30 Xq:=fun zs r hr=>by
 rcases zs with _ | ⟨a,_ | ⟨b,_ | ⟨c,_ | ⟨d,_ | ⟨e,_ | ⟨f,zs⟩⟩⟩⟩⟩⟩<;>try (cases hr;done)
 ·rw [aBi] at hr
  obtain ⟨x,y,cs,h,-,-,-,hg,rfl⟩:=Jt hr
  obtain ⟨rfl,rfl,rfl⟩:a = .c (.p 1000 7)/\b = .c (.v (.int .i64 1))/\c = .g cs:=by simpa using h
  exact .inr (.inr (.inr ⟨Yg,[.c (.p 1000 7),.c (.v (.int .i64 1))],[.g cs],[1000],_,_,rfl,rfl,rfl,Za (cs:=cs) hg.1 hg.2 (by simp [lk]) (fun m=>by
   simp only [lk]
   by_cases h:1000=m
   ·subst h;simp
   ·have h' : ¬ m=1000:=fun e=>h e.symm
    simp [h,h'])⟩))
 ·rw [I8] at hr
  obtain ⟨x,y,z,u,cs,h,-,-,-,-,-,hg,rfl⟩:=Rv hr
  obtain ⟨rfl,rfl,rfl,rfl,rfl⟩:a = .c (.p 1003 7)/\b = .c (.v (.int .i64 1))/\c=z/\d=u/\e = .g cs:=by simpa using h
  refine .inr (.inr (.inr ⟨Yg,[.c (.p 1003 7),.c (.v (.int .i64 1))],[c,d,.g cs],[1000,1001,1003],_,_,rfl,rfl,rfl,Za (cs:=cs) hg.1 hg.2 (by simp [lk]) (fun m=> ?_)⟩))
  by_cases h3:m=1003
  ·subst h3;simp [lk]
  ·rw [if_neg h3]
   have h3' : ¬ 1003=m:=fun h=>h3 h.symm
   simp only [lk,if_neg h3']
end Go.Proofs.YtfcbohachbeamaaGreatDoor.E
end
section
namespace Go.Proofs.YtfcbohachbeamaaGreatDoor.E
open Go.VC Go.RowKit Go.Maps
theorem aAP {w0 w:World} {e:TypeId} {v:Value} {es:List En} {S:Nat->Prop} (hS : ∀ b,S b->b<w0.heap.size) (h:w.ownsRow w0.heap.size e 2 v es.length (bR es)):(AP.c (.q 2 (qE es))).rep ⟨S,fun _=>0,fun _=>False⟩ w v:=by
 rcases h.2 with ⟨rfl,h0⟩ | ⟨g,cap,cur,rfl,hb,hg,h1,h2,h3,h4⟩
 ·have:es = []:=List.eq_nil_of_length_eq_zero h0
  subst this
  exact .inl ⟨rfl,rfl⟩
 ·refine .inr ⟨g,0,es.length,cap,rfl,by rw [iC],h1,fun h=>by have:=hS g h;omega,(Array.getElem?_eq_some_iff.1 hg).1,fun j c hc=> ?_⟩
  rw [Ja,List.getElem?_map] at hc
  cases hv:(bR es)[j]? with
  | none=>rw [hv] at hc;cases hc
  | some x=>
   rw [hv] at hc
   cases hc
   refine ⟨x,?_,rfl,Jl es x (List.mem_of_getElem? hv)⟩
   have hj:j<es.length*2:=by
    have:=(List.getElem?_eq_some_iff.1 hv).1
    rwa [Cf] at this
   rw [← h4,List.getElem?_take,if_pos hj] at hv
   unfold World.cell?
   rw [hg]
   simpa using hv
theorem aOu (l:List UInt8) (w:World) (G:aZ w):Calls Tryz.prog 57 #[sv l] w fun e w'=>Below w.heap.size w w' /\ ∃ ev,e = .returned (.tuple #[.agg #[.int .i64 (dQ l).1.u,.int .i64 (dQ l).1.x,ev],.int .i64 (dQ l).2.1,.int .i64 (dQ l).2.2]) /\
 w'.ownsRow w.heap.size 51 2 ev (dQ l).1.es.length (bR (dQ l).1.es):=by
 by_cases hl:65536<l.length
 ·have hP:dQ l=(uA,0,2):=by simp only [dQ];rw [if_pos hl]
  rw [hP]
  exact (aRs l w hl).mono fun e w' ⟨h1,h2⟩=>⟨h2,.slice none 0 0,h1,World.ownsRow_nil _ _ _ _⟩
 ·exact aGA l w G hl
end Go.Proofs.YtfcbohachbeamaaGreatDoor.E
end
section
namespace Go
theorem aHz {P:Program} (w:World) (dT sT ty elem:TypeId) (b o dLen dCap:Nat) (a:Addr) (sLen sCap m:Nat) (cs:List Value)
 (hu:P.underlying dT=some (.slice elem)) (hs:(P.info? elem).map (·.size)=some m) (hn:cs.length=Nat.min sLen dLen*m)
 (hsrc : ∀ j v,cs[j]? = some v->w.cell? (a.add j)=some v) (hc : ∀ j,j<cs.length->(w.cell? ⟨b,o+j,none⟩).isSome=true) (hf : ∀ j,j<cs.length->w.frozen? ⟨b,o+j,none⟩=false) (h1 : ∀ v∈cs,v.oneCell'=true) :
 (Builtin.copy_ #[dT,sT] ty #[.slice (some ⟨b,o,none⟩) dLen dCap,.slice (some a) sLen sCap]).run P w = .ok (goInt (Nat.min sLen dLen)) (w.setCells b o cs):=by
 have hl:=run_loadCells_list (P:=P) w a cs hsrc
 have hst:=run_storeCells_cells (P:=P) b o cs 0 w (by simpa using hc) (by simpa using hf) h1
 cases hq:P.info? elem with
 | none=>simp [hq] at hs
 | some i=>
  have hi:i.size=m:=by simpa [hq] using hs
  simp [Builtin.copy_,run_underlying hu,Builtin.lenOf,Builtin.firstCells,sizeOf,typeInfo,hq,hi,← hn,hl,hst]
end Go
namespace Go.Proofs.YtfcbohachbeamaaGreatDoor.E
open Go.VC Go.RowKit
abbrev pP (w:World) (u x:Int) (g o c n:Nat):World:=((w.alloc (.cells #[.int .i64 u,.int .i64 x,.slice (some ⟨g,o,none⟩) n c] 24)).alloc (.cells #[.int .i64 0,.int .i64 0,.slice none 0 0] 24)).alloc (.cells (madeCells #[.int .i64 0,.int .i64 0] (n*2)) 51)
theorem aHV (u x:Int) (g o c:Nat) (es:List En) (w:World) (hg:g<w.heap.size) (hE : ∀ j v,(bR es)[j]? = some v->w.cell? ⟨g,o+j,none⟩=some v) :
 ∃ W:World,(Builtin.copy_ #[22,22] 3 #[.slice (some ⟨w.heap.size+1+1,0,none⟩) es.length es.length,.slice (some ⟨g,o,none⟩) es.length c]).run Tryz.prog (pP w u x g o c es.length) = .ok (.int .i64 (es.length:Int)) W /\
  W.heap[w.heap.size]? = some (.cells #[.int .i64 u,.int .i64 x,.slice (some ⟨g,o,none⟩) es.length c] 24 (0,0))/\W.heap[w.heap.size+1]? = some (.cells #[.int .i64 0,.int .i64 0,.slice none 0 0] 24 (0,0))/\W.heap[w.heap.size+1+1]? = some (.cells (bR es).toArray 51 (0,0)) /\
  Below w.heap.size w W/\W.heap.size=w.heap.size+1+1+1:=by
 obtain ⟨i0,j1,j2,j3,j4⟩:=Vj
 have hv:(bR es).length=es.length*2:=Cf es
 have hM:(pP w u x g o c es.length).heap[w.heap.size+1+1]? = some (.cells (madeCells #[.int .i64 0,.int .i64 0] (es.length*2)).toList.toArray 51 (0,0)):=by
  have:=heap_alloc_new ((w.alloc (.cells #[.int .i64 u,.int .i64 x,.slice (some ⟨g,o,none⟩) es.length c] 24)).alloc (.cells #[.int .i64 0,.int .i64 0,.slice none 0 0] 24)) (.cells (madeCells #[.int .i64 0,.int .i64 0] (es.length*2)) 51)
  simpa using this
 have a0:=heap_alloc_new w (.cells #[.int .i64 u,.int .i64 x,.slice (some ⟨g,o,none⟩) es.length c] 24)
 have a1:=heap_alloc_new (w.alloc (.cells #[.int .i64 u,.int .i64 x,.slice (some ⟨g,o,none⟩) es.length c] 24)) (.cells #[.int .i64 0,.int .i64 0,.slice none 0 0] 24)
 have h1:(pP w u x g o c es.length).heap[w.heap.size+1]? = some (.cells #[.int .i64 0,.int .i64 0,.slice none 0 0] 24 (0,0)):=by
  have b2:=((Below.refl ((w.alloc (.cells #[.int .i64 u,.int .i64 x,.slice (some ⟨g,o,none⟩) es.length c] 24)).alloc (.cells #[.int .i64 0,.int .i64 0,.slice none 0 0] 24)).heap.size _).alloc (Nat.le_refl _) (.cells (madeCells #[.int .i64 0,.int .i64 0] (es.length*2)) 51)).block (w.heap.size+1) (by simp)
  rw [World.size_alloc] at a1
  exact b2.trans a1
 have h0:(pP w u x g o c es.length).heap[w.heap.size]? = some (.cells #[.int .i64 u,.int .i64 x,.slice (some ⟨g,o,none⟩) es.length c] 24 (0,0)):=by
  have b2:=(((Below.refl (w.alloc (.cells #[.int .i64 u,.int .i64 x,.slice (some ⟨g,o,none⟩) es.length c] 24)).heap.size _).alloc (Nat.le_refl _) (.cells #[.int .i64 0,.int .i64 0,.slice none 0 0] 24)).alloc (by simp) (.cells (madeCells #[.int .i64 0,.int .i64 0] (es.length*2)) 51)).block w.heap.size (by simp)
  exact b2.trans a0
 have hsz:(madeCells #[Value.int .i64 0,Value.int .i64 0] (es.length*2)).toList.length=es.length*2:=by rw [Array.length_toList,size_madeCells]
 have hbelow:Below w.heap.size w (pP w u x g o c es.length):=(((Below.refl _ _).alloc (Nat.le_refl _) _).alloc (by simp) _).alloc (by simp;omega) _
 generalize (madeCells #[Value.int .i64 0,Value.int .i64 0] (es.length*2)).toList=M at *
 obtain ⟨q1,q2,q3,q4⟩:=qG (bR es) (w.heap.size+1+1) 0 (pP w u x g o c es.length) M 51 hM (by omega)
 have hsame : ∀ k,k<w.heap.size->(pP w u x g o c es.length).heap[k]? = w.heap[k]? := fun k hk=>hbelow.block k hk
 have hcp:=aHz (P:=Tryz.prog) (pP w u x g o c es.length) 22 22 3 51 (w.heap.size+1+1) 0 es.length es.length ⟨g,o,none⟩ es.length c 2 (bR es) Tryz.underlying22 (by rw [j1];simp [j3]) (by rw [hv];simp)
  (fun j v hj=>by
   have:(⟨g,o,none⟩:Addr).add j=⟨g,o+j,none⟩:=by unfold Addr.add;split<;>simp_all
   rw [this,World.cell?_of_block (a:=⟨g,o+j,none⟩) (hsame g hg)]
   exact hE j v hj)
  (fun j hj=>by unfold World.cell?;rw [hM];simp;omega)
  (fun j hj=>by unfold World.frozen?;rw [hM];simp)
  (fun v hv=>Jl es v hv)
 have hmin:Nat.min es.length es.length=es.length:=Nat.min_self _
 rw [hmin] at hcp
 have hb4 : ∀ k,k≠w.heap.size+1+1->((pP w u x g o c es.length).setCells (w.heap.size+1+1) 0 (bR es)).heap[k]? = (pP w u x g o c es.length).heap[k]? := q2
 refine ⟨_,hcp,?_,?_,?_,?_,?_⟩
 ·rw [q2 _ (by omega)]
  exact h0
 ·rw [q2 _ (by omega)]
  exact h1
 ·rw [q1]
  congr 2
  simp only [List.take_zero,List.nil_append,Nat.zero_add]
  rw [List.drop_eq_nil_of_le (by omega),List.append_nil]
 ·exact ⟨q4.os.trans hbelow.os,q4.tape.trans hbelow.tape,q4.output.trans hbelow.output,by rw [q3];exact hbelow.size,fun k hk=>(q2 k (by omega)).trans (hbelow.block k hk)⟩
 ·rw [q3];simp [pP]
theorem aLS (u x:Int) (g o c:Nat) (es:List En) (w:World) (hn:es.length<=64) (hg:g<w.heap.size) (hE : ∀ j v,(bR es)[j]? = some v->w.cell? ⟨g,o+j,none⟩=some v) :
 Calls Tryz.prog 118 #[.agg #[.int .i64 u,.int .i64 x,.slice (some ⟨g,o,none⟩) es.length c]] w fun e w'=> ∃ ev,e = .returned (.agg #[.int .i64 u,.int .i64 x,ev])/\w'.ownsRow w.heap.size 51 2 ev es.length (bR es)/\Below w.heap.size w w':=by
 obtain ⟨i0,j1,j2,j3,j4⟩:=Vj
 have hmk : ∀ w:World,(Instr.makeSlice 22 (.int .i64 (es.length:Int)) (.int .i64 (es.length:Int))).run Tryz.prog w = .ok (.slice (some ⟨w.heap.size,0,none⟩) es.length es.length) (w.alloc (.cells (madeCells (Value.agg #[.int .i64 0,.int .i64 0]).cells (es.length*2)) 51)):=fun w=>by
  have h:=run_makeSlice w 22 51 i0 _ Tryz.underlying22 j1 j2 .i64 .i64 es.length es.length (by omega) (Int.le_refl _) (by rw [j3];omega) (by rw [j4];omega) (by omega)
  rw [j3] at h
  simpa using h
 obtain ⟨W,hcp,f1,f2,f3,f4,f5⟩:=aHV u x g o c es w hg hE
 have c0:W.cell? ⟨w.heap.size,0,none⟩=some (.int .i64 u):=by unfold World.cell?;rw [f1];rfl
 have c1:W.cell? ⟨w.heap.size,1,none⟩=some (.int .i64 x):=by unfold World.cell?;rw [f1];rfl
 have c2:W.cell? ⟨w.heap.size,2,none⟩=some (.slice (some ⟨g,o,none⟩) es.length c):=by unfold World.cell?;rw [f1];rfl
 have z2:W.frozen? ⟨w.heap.size,2,none⟩=false:=by unfold World.frozen?;rw [f1];simp
 have d0:W.cell? ⟨w.heap.size+1,0,none⟩=some (.int .i64 0):=by unfold World.cell?;rw [f2];rfl
 have d1:W.cell? ⟨w.heap.size+1,1,none⟩=some (.int .i64 0):=by unfold World.cell?;rw [f2];rfl
 have d2:W.cell? ⟨w.heap.size+1,2,none⟩=some (.slice none 0 0):=by unfold World.cell?;rw [f2];rfl
 have z3 : ∀ i,W.frozen? ⟨w.heap.size+1,i,none⟩=false:=fun i=>by unfold World.frozen?;rw [f2];simp
 have hH:Hid (W.heap[w.heap.size+1+1]? = some (.cells (bR es).toArray 51 (0,0))):=f3
 have hS:Hid (W.heap.size=w.heap.size+1+1+1):=f5
 clear f1 f2 f3 f5 hE
 unfold pP at hcp
 go_enter Tryz.func118,Tryz.ntmps118
 go_wp2
 refine bodyPost_ret (v:= .agg #[.int .i64 u,.int .i64 x,.slice (some ⟨w.heap.size+1+1,0,none⟩) es.length es.length]) (by simp [results,Tryz.results118,go_sem,c0,c1,c2,d0,d1,d2]) rfl ?_
 refine ⟨.slice (some ⟨w.heap.size+1+1,0,none⟩) es.length es.length,rfl,?_,?_⟩
 ·refine ⟨Cf es,.inr ⟨w.heap.size+1+1,es.length,(bR es).toArray,rfl,by omega,?_,Nat.le_refl _,by simp only [maxLen];omega,by simp [Cf],by simp [← Cf]⟩⟩
  rw [Below.heap_setCell _ _ _ _ (by simp),Below.heap_setCell _ _ _ _ (by simp),Below.heap_setCell _ _ _ _ (by simp),Below.heap_setCell _ _ _ _ (by simp;omega)]
  exact hH.out
 ·exact (((f4.setCell (p:=⟨w.heap.size,2,none⟩) (Nat.le_refl _) _).setCell (p:=⟨w.heap.size+1,0,none⟩) (Nat.le_succ _) _).setCell (p:=⟨w.heap.size+1,1,none⟩) (Nat.le_succ _) _).setCell (p:=⟨w.heap.size+1,2,none⟩) (Nat.le_succ _) _
theorem aNe : ∀ (l:List En) (j:Nat) (v:Value),(bR l)[j]? = some v->(qE l)[j]? = some (.v v):=fun l j v h=>by
 rw [Ja,List.getElem?_map,h];rfl
theorem aCI:Enters Tryz.prog 118:=enters Tryz.func118 (by kernel_rfl) (by kernel_rfl)
abbrev aKm:=s1 bV (fun t=>t.es ≠ []/\t.es.length<=64) fun t=> .o (bV.e t)
theorem Y0:Ok Tryz.prog 118 aKm:=fun zs r hr=>by
 obtain ⟨t,rfl,-,⟨hn0,hn⟩,rfl⟩:=pO hr
 refine .inl ⟨aCI,rfl,fun S w vs hS G hrep=> ?_⟩
 obtain ⟨v,rfl⟩ : ∃ v,vs = [v]:=by
  rcases vs with _ | ⟨v,_ | ⟨u,vs⟩⟩
  ·exact hrep.elim
  ·exact ⟨v,rfl⟩
  ·exact hrep.2.elim
 obtain ⟨⟨ys,rfl,hy⟩,-⟩:=hrep
 rcases ys with _ | ⟨y0,_ | ⟨y1,_ | ⟨y2,_ | ⟨y3,ys⟩⟩⟩⟩
 ·exact hy.elim
 ·exact hy.2.elim
 ·exact hy.2.2.elim
 ·obtain ⟨h0,h1,h2,-⟩:=hy
  have e0:y0 = .int .i64 t.u:=h0.1
  have e1:y1 = .int .i64 t.x:=h1.1
  subst e0 e1
  have h2:nY S w 2 y2 (qE t.es):=h2
  rcases h2 with ⟨rfl,h⟩ | ⟨g,o,n,c,rfl,k1,k2,k3,k4,k5⟩
  ·have:=congrArg List.length h
   rw [iC] at this
   exact absurd (List.eq_nil_of_length_eq_zero (by simp only [List.length_nil] at this;omega)) hn0
  ·rw [iC] at k1
   obtain rfl:n=t.es.length:=by omega
   refine (aLS t.u t.x g o c t.es w hn k4 (fun j v hv=> ?_)).mono ?_
   ·obtain ⟨v',g1,g2⟩:=k5 j _ (aNe t.es j v hv)
    rw [g1,g2.1]
   rintro e w' ⟨ev,rfl,hrow,hb⟩
   exact ⟨_,rfl,⟨[.int .i64 t.u,.int .i64 t.x,ev],rfl,⟨rfl,rfl⟩,⟨rfl,rfl⟩,aAP (fun b h=>(hS b h).1) hrow,trivial⟩,hb⟩
 ·exact hy.2.2.2.elim
end Go.Proofs.YtfcbohachbeamaaGreatDoor.E
end
section
namespace Go.VC
open Go.RowKit
noncomputable def nA {α : Type} (d : α) (e : α -> AP) (p : α -> Prop) (inj : ∀ x y,p x->p y->e x=e y->x=y):Co α where
 e:=e
 p:=p
 v a:= ∃ x,p x/\a=e x
 dv a:=Classical.propDecidable _
 t a:= @dite _ (∃ x,p x/\a=e x) (Classical.propDecidable _) (fun h=>Classical.choose h) (fun _=>d)
 some {a} h:=by
  have hs:=Classical.choose_spec h
  rw [dif_pos h]
  exact ⟨hs.2,hs.1⟩
 enc {x} h:=by
  have hx : ∃ y,p y/\e x=e y:=⟨x,h,rfl⟩
  refine ⟨hx,?_⟩
  rw [dif_pos hx]
  have hs:=Classical.choose_spec hx
  exact inj _ _ hs.1 h hs.2.symm
section
variable {α : Type} {d : α} {e : α -> AP} {p : α -> Prop} {inj : ∀ x y,p x->p y->e x=e y->x=y} {x : α}
theorem pR (h:p x):(nA d e p inj).v (e x)=True:=eq_true ⟨x,h,rfl⟩
theorem pY (h:p x):(nA d e p inj).t (e x)=x:=((nA d e p inj).enc h).2
end
end Go.VC
namespace Go.Proofs.YtfcbohachbeamaaGreatDoor.E
open Go.VC Go.RowKit
theorem V1 : ∀ {l pre:List En} {i:Nat} {e:En},dS pre l=none->l[i]? = some e->cQ (pre++l.take i) e
 | [],pre,i,e,_,he=>by cases he
 | a::r,pre,0,e,h,he=>by
  simp only [dS] at h
  by_cases hk:cQ pre a
  ·cases he;simpa using hk
  ·rw [if_neg hk] at h;cases h
 | a::r,pre,i+1,e,h,he=>by
  simp only [dS] at h
  by_cases hk:cQ pre a
  ·rw [if_pos hk] at h
   have:=V1 (i:=i) h he
   simpa using this
  ·rw [if_neg hk] at h;cases h
theorem iE {t:bC} (h:cC t):Tb.Tk t.es:=by
 obtain ⟨hp,hb,hn⟩:=h
 have hlen:0<t.es.length:=List.length_pos_iff.2 hn
 have hget : ∀ i,i<t.es.length->t.es[i]? = some (t.es.getD i (0,0)):=fun i hi=>by
  rw [List.getD_eq_getElem?_getD,List.getElem?_eq_getElem hi];rfl
 have hent:=Sz hb
 have hmem : ∀ i,i<t.es.length->t.es.getD i (0,0)∈t.es:=fun i hi=>List.mem_of_getElem? (hget i hi)
 refine ⟨hlen,b9 ⟨hp,hb,hn⟩,fun i hi=> ?_,fun i hi=> ?_,fun i hi=> ?_⟩
 ·have:=hent _ (hmem i hi)
  simp only [Tb.D,Tb.dE]
  omega
 ·have:=hent _ (hmem i hi)
  simp only [Tb.O]
  exact this.2.2
 ·have h1:=hent _ (hmem i (by omega))
  have h2:=V1 hb (hget (i+1) hi)
  have h3:zK ([]++t.es.take (i+1))=t.es.getD i (0,0):=by
   rw [List.nil_append,List.take_add_one,hget i (by omega)]
   exact zS _ _
  have h4:=h2.2.2.2.2
  rw [h3] at h4
  have h5:=hent _ (hmem (i+1) hi)
  rcases h4 with h4 | h4
  ·have:=congrArg List.length h4
   rw [List.nil_append,List.length_take] at this
   simp only [List.length_nil] at this
   omega
  ·unfold Tb.D Tb.O Tb.dE
   omega
theorem uR : ∀ {l:List En} {i:Nat},i<l.length->(qM l).drop (i*3) = .v (.int .i64 (Tb.D l i)) :: .v (.int .i64 (Tb.O l i)) :: .v (.int .i64 (Tb.S l i))::qM (l.drop (i+1))
 | [],i,h=>by cases h
 | e::r,0,h=>rfl
 | e::r,i+1,h=>by
  have h2:(i+1)*3=i*3+1+1+1:=by omega
  rw [h2]
  exact uR (l:=r) (by simpa using h)
theorem aGw (l:List En):(cZ l).map QC.v=qM l:=(Iu l).symm
theorem Sr : ∀ l:List Value,mB (l.map QC.v)=some l
 | []=>rfl
 | a::r=>by simp [mB,Sr r]
theorem S8 (l:List En):mB (qM l)=some (cZ l):=by rw [Iu];exact Sr _
theorem Wr : ∀ {a b:List En},(∀ e∈a,e.1%86400=0)->(∀ e∈b,e.1%86400=0)->cZ a=cZ b->a=b
 | [],[],_,_,_=>rfl
 | [],_::_,_,_,h=>by cases h
 | _::_,[],_,_,h=>by cases h
 | x::a,y::b,ha,hb,h=>by
  simp only [cZ,List.cons.injEq,Value.int.injEq,true_and,Tb.dE] at h
  obtain ⟨h1,h2,h3,h4⟩:=h
  have e1:=ha x (by simp)
  have e2:=hb y (by simp)
  have:x=y:=Prod.ext (by omega) h2
  rw [this,Wr (fun e he=>ha e (by simp [he])) (fun e he=>hb e (by simp [he])) h4]
def pM (es:List En):Prop:= ∀ e∈es,e.1%86400=0
noncomputable def Fb:Co (List En):=nA [] (fun es=> .c (.kq [.qv 3 (cZ es)])) pM (fun x y hx hy h=>by
 simp only [AP.c.injEq,AC.kq.injEq,List.cons.injEq,QC.qv.injEq,true_and,and_true] at h
 exact Wr hx hy h)
theorem aOs {es:List En} : Fb.e es = .c (.kq [.qv 3 (cZ es)]):=_root_.id rfl
theorem aPq {es:List En} : Fb.p es=pM es:=_root_.id rfl
theorem Wy {es:List En} (h:pM es):Fb.v (.c (.kq [.qv 3 (cZ es)]))=True:=pR (e:=fun es=> .c (.kq [.qv 3 (cZ es)])) h
theorem Vi {es:List En} (h:pM es):Fb.t (.c (.kq [.qv 3 (cZ es)]))=es:=pY (e:=fun es=> .c (.kq [.qv 3 (cZ es)])) h
noncomputable def Ev:Co Int:=nA 0 (fun d=> .c (.k (.int .i64 d))) (fun _=>True) (fun x y _ _ h=>by simpa using h)
theorem aCy {d:Int} : Ev.e d = .c (.k (.int .i64 d)):=_root_.id rfl
theorem aQ1 {d:Int} : Ev.p d=True:=_root_.id rfl
theorem aHB {d:Int} : Ev.v (.c (.k (.int .i64 d)))=True:=pR (e:=fun d=> .c (.k (.int .i64 d))) trivial
theorem aDO {d:Int} : Ev.t (.c (.k (.int .i64 d)))=d:=pY (e:=fun d=> .c (.k (.int .i64 d))) trivial
attribute [simp] aOs aPq aCy aQ1 aHB aDO aGw S8
noncomputable abbrev J8:=s3 bF Fb Ev (fun i es _=>0<=i/\i<es.length) fun i es d=> .o (bv (decide (Tb.D es i.toNat>d)))
theorem aN8:Ok Tryz.prog 229 J8:=yK (aG Tryz.func229 Dq.ent Dq.aA aH) (by simp [Dq.c]) fun i es d hi he _ hg=>by
 refine ⟨0,?_⟩
 obtain ⟨n,rfl⟩:=Int.eq_ofNat_of_zero_le hg.1
 have hn:n<es.length:=by omega
 have h1:=uR hn
 have h2:n*3+3<=es.length*3:=by omega
 simp [Dq.c,h1,h2,uC]
noncomputable abbrev T4:=s3 bF Fb Ev (fun i es _=>0<=i/\i<es.length) fun i es d=> .o (bv (decide (Tb.S es i.toNat>d)))
theorem aQ2:Ok Tryz.prog 235 T4:=yK (aG Tryz.func235 Ct.ent Ct.aA aH) (by simp [Ct.c]) fun i es d hi he _ hg=>by
 refine ⟨0,?_⟩
 obtain ⟨n,rfl⟩:=Int.eq_ofNat_of_zero_le hg.1
 have hn:n<es.length:=by omega
 have h1:=uR hn
 have h2:n*3+3<=es.length*3:=by omega
 simp [Ct.c,h1,h2,uC]
noncomputable abbrev o9:=s3 bF Fb Ev (fun i es _=>(0<=i/\i<es.length) /\ -0xde0b6b3a7640000<=Tb.D es i.toNat/\Tb.D es i.toNat<=0xde0b6b3a7640000) fun i es d=> .o (bv (decide (Tb.D es i.toNat-1≥d)))
theorem aDB:Ok Tryz.prog 275 o9:=yK (aG Tryz.func275 Fl.ent Fl.aA aH) (by simp [Fl.c]) fun i es d hi he _ hg=>by
 refine ⟨0,?_⟩
 obtain ⟨hg,r1,r2⟩:=hg
 obtain ⟨n,rfl⟩:=Int.eq_ofNat_of_zero_le hg.1
 have hn:n<es.length:=by omega
 have h1:=uR hn
 have h2:n*3+3<=es.length*3:=by omega
 simp only [Int.toNat_natCast] at r1 r2
 have w1:IntKind.i64.wrap (Tb.D es n-1)=Tb.D es n-1:=aD (by omega) (by omega)
 simp [Fl.c,h1,h2,uC,w1]
theorem Vl {sp:Go.VC.Spec} {f:Nat} {es:List En} {d:Int} (p:Nat->Prop) [DecidablePred p] (hsp : ∀ i:Nat,i<es.length->sp f [.c (.v (.int .i64 i)),.c (.kq [.qv 3 (cZ es)]),.c (.k (.int .i64 d))]=some (.o (bv (decide (p i))))) (hm : ∀ i j,i<=j->j<es.length->p i->p j) (hn:es.length<=64) :
 ∃ k,bY sp k iQ.c.code (gY [.c (.v (.int .i64 es.length)),.c (.fn f [.q (.pN 3 (cZ es)),.q (.kv (.int .i64 d))])]) (done iQ.c (.o (iv .i64 (Tb.fst p es.length)))):=by
 refine ⟨es.length+1,?_⟩
 simp only [iQ.c,fL,fC,fJ,fG]
 simp
 refine lL (fun m s=> ∃ lo hi:Nat,lo<=hi/\hi<=es.length/\m=hi-lo/\(∀ i,i<lo -> ¬ p i)/\(∀ i,hi<=i->i<es.length->p i)/\s.tm 1 = .o (.c (.fn f [.q (.pN 3 (cZ es)),.q (.kv (.int .i64 d))]))/\s.tm 5 = .o (iv .i64 lo)/\s.tm 6 = .o (iv .i64 hi)) ?_ _ es.length _ (by omega) ?_
 ·rintro m s ⟨lo,hi,h1,h2,rfl,h3,h4,t1,t5,t6⟩
  by_cases hlt:lo<hi
  ·have c1:(lo:Int)<hi:=by omega
   have w1:IntKind.i64.wrap ((lo:Int)+hi)=lo+hi:=aD (by omega) (by omega)
   have w2:IntKind.u64.wrap ((lo:Int)+hi)=lo+hi:=rK (by omega) (by omega)
   have w3:((lo:Int)+hi).fdiv 2=((lo+hi)/2:Nat):=by
    rw [Int.fdiv_eq_ediv_of_nonneg _ (by decide)];omega
   have w4:IntKind.i64.wrap (((lo+hi)/2:Nat):Int)=((lo+hi)/2:Nat):=aD (by omega) (by omega)
   have w5:IntKind.i64.wrap ((((lo+hi)/2:Nat):Int)+1)=((lo+hi)/2+1:Nat):=(aD (by omega) (by omega)).trans (by omega)
   have hM1:lo<=(lo+hi)/2:=by omega
   have hM2:(lo+hi)/2<hi:=by omega
   generalize (lo+hi)/2=M at *
   have hs:=hsp M (by omega)
   by_cases hp:p M
   ·have e1:decide (p M)=true:=decide_eq_true hp
    rw [e1] at hs
    simp [iQ.l1,t1,t5,t6,c1,w1,w2,w3,w4,w5,hs]
    exact ⟨M-lo,by omega,lo,M,by omega,by omega,rfl,h3,fun i g1 g2=>hm M i g1 g2 hp,rfl,rfl⟩
   ·have e1:decide (p M)=false:=decide_eq_false hp
    rw [e1] at hs
    simp [iQ.l1,t1,t5,t6,c1,w1,w2,w3,w4,w5,hs]
    exact ⟨hi-(M+1),by omega,M+1,hi,by omega,by omega,rfl,fun i g1 g2=>hp (hm i M (by omega) (by omega) g2),h4,by omega,rfl⟩
  ·have c1 : ¬ (lo:Int)<hi:=by omega
   have e0:lo=hi:=by omega
   subst e0
   have e1:=Tb.fst_eq (n:=es.length) h2 h3 h4
   simp [iQ.l1,t1,t5,t6,e1]
 ·exact ⟨0,es.length,by omega,by omega,by omega,fun i hi=>by omega,fun i h1 h2=>by omega,by simp,by simp,by simp⟩
end Go.Proofs.YtfcbohachbeamaaGreatDoor.E
end
section
namespace Go.Proofs.YtfcbohachbeamaaGreatDoor.E
open Go.VC Go.RowKit
attribute [simp] aD8 aKj aOr aNu aIH
theorem Sf {t:bC} (h:cC t):pM t.es:=fun e he=>(Vc h e he).2.1
def Gf (f:Nat) (x:List En×Int):AP:= .c (.fn f [.q (.pN 3 (cZ x.1)),.q (.kv (.int .i64 x.2))])
theorem aDJ (f:Nat) (x y:List En×Int) (hx:pM x.1) (hy:pM y.1) (h:Gf f x=Gf f y):x=y:=by
 simp only [Gf,AP.c.injEq,AC.fn.injEq,List.cons.injEq,FC.q.injEq,QC.pN.injEq,QC.kv.injEq,Value.int.injEq,true_and,and_true] at h
 exact Prod.ext (Wr hx hy h.1) h.2
noncomputable def Ku (f:Nat):Co (List En×Int):=nA ([],0) (Gf f) (fun x=>pM x.1) (aDJ f)
theorem Wc {f:Nat} {es:List En} {d:Int} (h:pM es):(Ku f).v (.c (.fn f [.q (.pN 3 (cZ es)),.q (.kv (.int .i64 d))]))=True:=pR (e:=Gf f) (x:=(es,d)) h
theorem Rj {f:Nat} {es:List En} {d:Int} (h:pM es):(Ku f).t (.c (.fn f [.q (.pN 3 (cZ es)),.q (.kv (.int .i64 d))]))=(es,d):=pY (e:=Gf f) (x:=(es,d)) h
def gS (n:Int) (x:List En×Int):Prop:=n=x.1.length/\Tb.Tk x.1
open Classical in
noncomputable instance (n:Int) (x:List En×Int):Decidable (gS n x):=propDecidable _
noncomputable abbrev Rl:=s2 bF (Ku 229) gS fun _ x=> .o (iv .i64 (Tb.Fp x.1 x.2))
noncomputable abbrev Ts:=s2 bF (Ku 235) gS fun _ x=> .o (iv .i64 (Tb.sH x.1 x.2))
noncomputable abbrev Ud:=s2 bF (Ku 275) gS fun _ x=> .o (iv .i64 (Tb.rT x.1 x.2))
noncomputable def Js:List AP->Option AV
 | [a,.c (.fn 229 l)]=>Rl [a,.c (.fn 229 l)]
 | [a,.c (.fn 235 l)]=>Ts [a,.c (.fn 235 l)]
 | [a,.c (.fn 275 l)]=>Ud [a,.c (.fn 275 l)]
 | _=>none
theorem aE9 {a:AP} {l:List FC} : Js [a,.c (.fn 229 l)]=Rl [a,.c (.fn 229 l)]:=_root_.id rfl
theorem aIe {a:AP} {l:List FC} : Js [a,.c (.fn 235 l)]=Ts [a,.c (.fn 235 l)]:=_root_.id rfl
theorem aQq {a:AP} {l:List FC} : Js [a,.c (.fn 275 l)]=Ud [a,.c (.fn 275 l)]:=_root_.id rfl
abbrev Sh:fA Tryz.prog (gV [(229,J8),(235,T4),(275,o9)]):=aB aN8 (aB aQ2 (aB aDB aH))
theorem aKa:Ok Tryz.prog 228 Rl:=eT (aG Tryz.func228 iQ.ent iQ.aA Sh) (by simp [iQ.c]) fun n x hn hx hg=>by
 obtain ⟨es,d⟩:=x
 obtain ⟨rfl,hk⟩:=hg
 refine Vl (fun i=>Tb.D es i>d) (fun i hi=> ?_) (fun i j h1 h2 h3=>Int.lt_of_lt_of_le h3 (hk.mono h1 h2)) hk.n1
 have:=hk.n1
 have hv:=Wy hx
 have ht:=Vi hx
 simp only at hv ht
 simp [gV,s3,hv,ht,hi]
 omega
theorem aKh:Ok Tryz.prog 228 Ts:=eT (aG Tryz.func228 iQ.ent iQ.aA Sh) (by simp [iQ.c]) fun n x hn hx hg=>by
 obtain ⟨es,d⟩:=x
 obtain ⟨rfl,hk⟩:=hg
 refine Vl (fun i=>Tb.S es i>d) (fun i hi=> ?_) (fun i j h1 h2 h3=>Int.lt_of_lt_of_le h3 (hk.Ps h1 h2)) hk.n1
 have:=hk.n1
 have hv:=Wy hx
 have ht:=Vi hx
 simp only at hv ht
 simp [gV,s3,hv,ht,hi]
 omega
theorem aDf:Ok Tryz.prog 228 Ud:=eT (aG Tryz.func228 iQ.ent iQ.aA Sh) (by simp [iQ.c]) fun n x hn hx hg=>by
 obtain ⟨es,d⟩:=x
 obtain ⟨rfl,hk⟩:=hg
 refine Vl (fun i=>Tb.D es i-1≥d) (fun i hi=> ?_) (fun i j h1 h2 h3=>by have hm:Tb.D es i<=Tb.D es j:=hk.mono h1 h2;show Tb.D es j-1≥d;have h3:Tb.D es i-1≥d:=h3;omega) hk.n1
 have:=hk.n1
 have hv:=Wy hx
 have ht:=Vi hx
 have hd:15020<=Tb.D es i/\Tb.D es i<=13046262021/\_:=hk.d i hi
 simp only at hv ht
 simp [gV,s3,hv,ht,hi]
 omega
theorem Xd:Ok Tryz.prog 228 Js:=fun zs r hr=>by
 unfold Js at hr
 split at hr
 ·exact aKa _ _ hr
 ·exact aKh _ _ hr
 ·exact aDf _ _ hr
 ·cases hr
attribute [simp] aE9 aIe aQq
noncomputable def Ca (x:Bool×bC):AP:=if x.1 then .g (aW x.2) else .g (gE x.2)
theorem U4 {t t':bC} : .g (aW t)≠AP.g (gE t'):=by simp [aW,gE]
noncomputable def Dm:Co (Bool×bC):=nA (false,⟨0,0,[]⟩) Ca (fun x=>cC x.2) (fun x y _ _ h=>by
 obtain ⟨a,t⟩:=x
 obtain ⟨b,u⟩:=y
 cases a<;>cases b
 ·have:=congrArg tL h;simp only [Ca,if_false,Hf,Bool.false_eq_true] at this;rw [this]
 ·exact absurd h.symm U4
 ·exact absurd h U4
 ·have:=congrArg tL h;simp only [Ca,if_true,Gu] at this;rw [this])
theorem jW {t:bC} (h:cC t):Dm.v (.g (aW t))=True:=pR (e:=Ca) (x:=(true,t)) h
theorem kE {t:bC} (h:cC t):Dm.t (.g (aW t))=(true,t):=pY (e:=Ca) (x:=(true,t)) h
theorem aBq {t:bC} (h:cC t):Dm.v (.g (gE t))=True:=pR (e:=Ca) (x:=(false,t)) h
theorem aAU {t:bC} (h:cC t):Dm.t (.g (gE t))=(false,t):=pY (e:=Ca) (x:=(false,t)) h
theorem Vg {x:Bool×bC} : Dm.e x=if x.1 then .g (aW x.2) else .g (gE x.2):=_root_.id rfl
noncomputable abbrev aNa:=s2 (cV 1000) Dm eO fun _ x=> .io [1000] [.g (aW x.2)] [.c (.q 3 (qM x.2.es))]
theorem Pm:Ok Tryz.prog 119 aNa:=fun zs r hr=>by
 obtain ⟨x,⟨b,t⟩,rfl,-,ht,-,rfl⟩:=jF hr
 replace ht:cC t:=ht
 cases b
 ·exact aIF _ _ (by simp [s2,Vg,aGb,aNr,aNE];exact ht)
 ·exact aOU _ _ (by simp [s2,Vg,aN];exact ht)
theorem aOI {t:bC} : (aW t).set 7 (.ik .i64)=aW t:=_root_.id rfl
theorem aKG {t:bC} : rP (aW t)[7]? = true:=_root_.id rfl
theorem aGt {t:bC} {h:7<(aW t).length} : rP (some (aW t)[7])=true:=_root_.id rfl
theorem aE7 {t:bC} : rF (aW t) = []:=_root_.id rfl
theorem aRm {t:bC} : rF (gE t) = []:=_root_.id rfl
attribute [simp] aE7 aRm
theorem Yf {t:bC} : (aW t).length=8:=_root_.id rfl
noncomputable abbrev aK2:=s2 (cV 1000) dF eO fun _ t=> .io [1000] [.g (aW t)] [bv true]
theorem Uy:Ok Tryz.prog 227 aK2:=Hy (aG Tryz.func227 Bm.ent Bm.aA (aB Wt aH)) [1000] [(1000,1000)] 1 rfl rfl rfl rfl rfl (by simp [Bm.c]) fun _ t _ ht _=>by
 refine ⟨⟨_,_,rfl⟩,0,?_⟩
 simp [Bm.c,aOI,aKG,aGt,Yf]
end Go.Proofs.YtfcbohachbeamaaGreatDoor.E
end
section
namespace Go.Proofs.YtfcbohachbeamaaGreatDoor.E
open Go.VC Go.RowKit
theorem wW (l:List En):(qM l).length/3=l.length:=by rw [uC];omega
theorem wQ {n:Int} {es:List En} {d:Int} : gS n (es,d)=(n=es.length/\Tb.Tk es):=_root_.id rfl
noncomputable abbrev aPL:=s2 (cV 1000) Dm eO fun _ x=> .io [1000] [.g (aW x.2)] [iv .i64 (Tb.D x.2.es 0)]
theorem Ms:Ok Tryz.prog 85 aPL:=Hy (aG Tryz.func85 Em.ent Em.aA (aB Pm aH)) [1000] [(1000,1000)] 1 rfl rfl rfl rfl rfl (by simp [Em.c]) fun _ x _ ht _=>by
 obtain ⟨b,t⟩:=x
 replace ht:cC t:=ht
 have hk:=iE ht
 have h1:(qM t.es).drop 0=_:=uR (i:=0) hk.n0
 rw [List.drop_zero] at h1
 refine ⟨⟨_,_,rfl⟩,0,?_⟩
 cases b<;>simp [Em.c,Vg,jW,kE,aBq,aAU,ht,h1]
theorem aG5 {l:List En} : Am [.q 3 (qM l)] 0 = .kq [.qv 3 (cZ l)]:=by simp [Am,Bi,AC.qc,S8]
theorem aB6 {x:Int} {k:IntKind} : Am [.v (.int k x)] 0 = .kq [.v (.int k x)]:=_root_.id rfl
theorem Uk {t:bC} {n:Nat} {cs:List AC} : (aW t).map (fun x=>AC.rel n cs x)=aW t:=by simp [aW,AC.rel]
theorem aCC {t:bC} {n m:Nat} {cs ds:List AC} : (aW t).map ((fun x=>AC.rel n cs x) ∘ fun x=>AC.rel m ds x)=aW t:=by rw [← List.map_map,Uk,Uk]
attribute [simp] aG5 aB6 Uk aCC
noncomputable abbrev aLo:=s3 (cV 1000) bF dF lB fun _ d t=> .io [1000] [.g (aW t)] [iv .i64 (Tb.pB t.es d)]
theorem aFr:Ok Tryz.prog 258 aLo:=nK (aG Tryz.func258 sW.ent sW.aA (aB Pm (aB Xd aH))) [1000] [(1000,1000)] 2 rfl rfl rfl rfl rfl (by simp [sW.c]) fun _ d t _ hd ht _=>by
 replace ht:cC t:=ht
 have hk:=iE ht
 have hM:=Sf ht
 have hv:=Wc (f:=275) (d:=d) hM
 have hT:=Rj (f:=275) (d:=d) hM
 have n1:=hk.n1
 have hle:Tb.rT t.es d<=t.es.length:=Tb.Au _ _
 refine ⟨⟨_,_,rfl⟩,0,?_⟩
 have hd' : -0x8000000000000000<=d/\d<0x8000000000000000:=hd
 have hl:(t.es.length:Int)<0x8000000000000000:=by omega
 obtain ⟨n,hn⟩ : ∃ n,Tb.rT t.es d=n:=⟨_,rfl⟩
 rw [hn] at hle
 by_cases h0:n=0
 ·simp [sW.c,Tb.pB,jW,kE,ht,hv,hT,wQ,hk,wW,hd',hl,hn,h0]
 have h0' : ¬ (n:Int)=0:=by omega
 by_cases h1:n=t.es.length
 ·subst h1
  simp [sW.c,Tb.pB,jW,kE,ht,hv,hT,wQ,hk,wW,hd',hl,hn,h0,h0']
 have h1' : ¬ (n:Int)=t.es.length:=by omega
 have hlt:n<t.es.length:=by omega
 have q1:=uR hlt
 have q2:n*3+3<=t.es.length*3:=by omega
 have r1:=hk.d _ hlt
 have w1:IntKind.i64.wrap (Tb.D t.es n-1)=Tb.D t.es n-1:=aD (by omega) (by omega)
 by_cases h2:Tb.D t.es n-1=d
 ·obtain ⟨m,rfl⟩ : ∃ m,n=m+1:=⟨n-1,by omega⟩
  have e1:m<t.es.length:=by omega
  have p1:=uR e1
  have p2:m*3+3<=t.es.length*3:=by omega
  have s1:=hk.o _ hlt
  have s2:=hk.o _ e1
  have w2:IntKind.i64.wrap (Tb.O t.es (m+1)-Tb.O t.es m)=Tb.O t.es (m+1)-Tb.O t.es m:=aD (by omega) (by omega)
  have w3:IntKind.i64.wrap (((m:Int)+1)-1)=m:=(aD (by omega) (by omega)).trans (by omega)
  have w4:IntKind.i64.wrap (m:Int)=m:=(aD (by omega) (by omega)).trans (by omega)
  have a1 : ¬ (m:Int)+1=0:=by omega
  have a2 : ¬ (m:Int)+1=(t.es.length:Int):=by omega
  have a3:0<=(m:Int)+1:=by omega
  have w5:IntKind.i64.wrap d=d:=aD hd'.1 hd'.2
  simp [sW.c,Tb.pB,jW,kE,ht,hv,hT,wQ,hk,wW,uC,hd',hl,hn,h1,h1',q1,q2,w1,h2,p1,p2,w2,w3,w4,w5,a1,a2,a3]
 ·simp [sW.c,Tb.pB,jW,kE,ht,hv,hT,wQ,hk,wW,uC,hd',hl,hn,h0,h0',h1,h1',q1,q2,w1,h2]
def oV (es:List En) (d:Int):Int:=(Tb.sR es d).getD 0
def oE (es:List En) (d:Int):Int:=if Tb.sR es d=none then 8 else 0
noncomputable abbrev aIm:=s3 (cV 1000) bF dF lB fun _ d t=> .io [1000] [.g (aW t)] [iv .i64 (oV t.es d),iv .i64 (oE t.es d)]
theorem Qm:Ok Tryz.prog 177 aIm:=nK (aG Tryz.func177 Aj.ent Aj.aA (aB Uy (aB Pm (aB Xd aH)))) [1000] [(1000,1000)] 2 rfl rfl rfl rfl rfl (by simp [Aj.c]) fun _ d t _ hd ht _=>by
 replace ht:cC t:=ht
 have hk:=iE ht
 have hM:=Sf ht
 have hv:=Wc (f:=229) (d:=d) hM
 have hT:=Rj (f:=229) (d:=d) hM
 have n1:=hk.n1
 have hle:Tb.Fp t.es d<=t.es.length:=Tb.Au _ _
 refine ⟨⟨_,_,rfl⟩,0,?_⟩
 have hd' : -0x8000000000000000<=d/\d<0x8000000000000000:=hd
 have hl:(t.es.length:Int)<0x8000000000000000:=by omega
 obtain ⟨n,hn⟩ : ∃ n,Tb.Fp t.es d=n:=⟨_,rfl⟩
 rw [hn] at hle
 by_cases h0:n=0
 ·simp [Aj.c,oV,oE,Tb.sR,aN,jW,kE,ht,hv,hT,wQ,hk,wW,hd',hl,hn,h0]
 obtain ⟨m,rfl⟩ : ∃ m,n=m+1:=⟨n-1,by omega⟩
 have e1:m<t.es.length:=by omega
 have p1:=uR e1
 have p2:m*3+3<=t.es.length*3:=by omega
 have a1 : ¬ (m:Int)+1=0:=by omega
 have w3:IntKind.i64.wrap (((m:Int)+1)-1)=m:=(aD (by omega) (by omega)).trans (by omega)
 have w4:IntKind.i64.wrap (m:Int)=m:=(aD (by omega) (by omega)).trans (by omega)
 simp [Aj.c,oV,oE,Tb.sR,aN,jW,kE,ht,hv,hT,wQ,hk,wW,uC,hd',hl,hn,a1,p1,p2,w3,w4]
def aO (es:List En) (s:Int):Int:=match Tb.pV es s with
 | some x=>x.1
 | none=>0
def aU (es:List En) (s:Int):Int:=match Tb.pV es s with
 | some x=>x.2
 | none=>0
def aE (es:List En) (s:Int):Int:=match Tb.pV es s with
 | some _=>0
 | none=>8
noncomputable abbrev aDr:=s3 (cV 1000) bF dF lB fun _ s t=> .io [1000] [.g (aW t)] [iv .i64 (aO t.es s),iv .i64 (aU t.es s),iv .i64 (aE t.es s)]
theorem aBm:Ok Tryz.prog 186 aDr:=nK (aG Tryz.func186 wU.ent wU.aA (aB Uy (aB Pm (aB Xd aH)))) [1000] [(1000,1000)] 2 rfl rfl rfl rfl rfl (by simp [wU.c]) fun _ d t _ hd ht _=>by
 replace ht:cC t:=ht
 have hk:=iE ht
 have hM:=Sf ht
 have hv:=Wc (f:=235) (d:=d) hM
 have hT:=Rj (f:=235) (d:=d) hM
 have n1:=hk.n1
 have hle:Tb.sH t.es d<=t.es.length:=Tb.Au _ _
 refine ⟨⟨_,_,rfl⟩,0,?_⟩
 have hd' : -0x8000000000000000<=d/\d<0x8000000000000000:=hd
 have hl:(t.es.length:Int)<0x8000000000000000:=by omega
 obtain ⟨n,hn⟩ : ∃ n,Tb.sH t.es d=n:=⟨_,rfl⟩
 rw [hn] at hle
 by_cases h0:n=0
 ·simp [wU.c,aO,aU,aE,Tb.pV,aN,jW,kE,ht,hv,hT,wQ,hk,wW,hd',hl,hn,h0]
 obtain ⟨m,rfl⟩ : ∃ m,n=m+1:=⟨n-1,by omega⟩
 have e1:m<t.es.length:=by omega
 have p1:=uR e1
 have p2:m*3+3<=t.es.length*3:=by omega
 have a1 : ¬ (m:Int)+1=0:=by omega
 have a3:0<=(m:Int)+1:=by omega
 have w3:IntKind.i64.wrap (((m:Int)+1)-1)=m:=(aD (by omega) (by omega)).trans (by omega)
 have w4:IntKind.i64.wrap (m:Int)=m:=(aD (by omega) (by omega)).trans (by omega)
 by_cases h1:m+1=t.es.length
 ·have a2:(m:Int)+1=(t.es.length:Int):=by omega
  have hn':Tb.sH t.es d=t.es.length:=hn.trans h1
  have h0' : ¬ t.es.length=0:=by omega
  have h0'' : ¬ (t.es.length:Int)=0:=by omega
  have h4:t.es.length-1=m:=by omega
  have w6:IntKind.i64.wrap ((t.es.length:Int)-1)=m:=(aD (by omega) (by omega)).trans (by omega)
  simp [wU.c,aO,aU,aE,Tb.pV,Tb.never,aN,jW,kE,ht,hv,hT,wQ,hk,wW,uC,hd',hl,hn',h0',h0'',h4,p1,p2,w6]
 ·have a2 : ¬ (m:Int)+1=(t.es.length:Int):=by omega
  have hlt:m+1<t.es.length:=by omega
  have q1:=uR hlt
  have q2:(m+1)*3+3<=t.es.length*3:=by omega
  simp [wU.c,aO,aU,aE,Tb.pV,aN,jW,kE,ht,hv,hT,wQ,hk,wW,uC,hd',hl,hn,h1,a1,a2,a3,p1,p2,q1,q2,w3,w4]
def lV (es:List En) (d:Int):Int:=if d<Tb.D es 0 then 0 else 86400+Tb.pB es d
def lE (es:List En) (d:Int):Int:=if d<Tb.D es 0 then 8 else 0
theorem aIT {es:List En} (hk:Tb.Tk es) (d:Int) : -1<=Tb.pB es d/\Tb.pB es d<=1:=by
 unfold Tb.pB
 split
 ·decide
 ·rename_i h
  have hle:Tb.rT es d<=es.length:=Tb.Au _ _
  obtain ⟨m,hm⟩ : ∃ m,Tb.rT es d=m+1:=⟨Tb.rT es d-1,by omega⟩
  rw [hm] at h hle ⊢
  have:=(hk.up m (by omega)).2
  simp only [Nat.add_sub_cancel]
  omega
noncomputable abbrev aMR:=s3 (cV 1000) bF dF lB fun _ d t=> .io [1000] [.g (aW t)] [iv .i64 (lV t.es d),iv .i64 (lE t.es d)]
theorem aB2:Ok Tryz.prog 237 aMR:=nK (aG Tryz.func237 Ai.ent Ai.aA (aB Uy (aB Ms (aB aFr aH)))) [1000] [(1000,1000)] 2 rfl rfl rfl rfl rfl (by simp [Ai.c]) fun _ d t _ hd ht _=>by
 replace ht:cC t:=ht
 have hk:=iE ht
 have hd' : -0x8000000000000000<=d/\d<0x8000000000000000:=hd
 have hc:=aIT hk d
 have w1:IntKind.i64.wrap (86400+Tb.pB t.es d)=86400+Tb.pB t.es d:=aD (by omega) (by omega)
 refine ⟨⟨_,_,rfl⟩,0,?_⟩
 by_cases h:d<Tb.D t.es 0
 ·simp [Ai.c,lV,lE,aN,jW,kE,ht,hd',h]
 ·have h':=Int.not_lt.1 h
  simp [Ai.c,lV,lE,aN,jW,kE,ht,hd',h,h',w1]
noncomputable abbrev aMV:=s2 (cV 1000) dF eO fun _ t=> .io [1000] [.g (aW t)] [bV.e t]
theorem aHZ:Ok Tryz.prog 230 aMV:=Hy (aG Tryz.func230 Dp.ent Dp.aA (aB Y0 aH)) [1000] [(1000,1000)] 1 rfl rfl rfl rfl rfl (by simp [Dp.c]) fun _ t _ ht _=>by
 replace ht:cC t:=ht
 have hk:=iE ht
 have h1:=hk.n1
 have h0:=ht.2.2
 have h2:((aW t).drop 0).take 3 = [.v (.int .i64 t.u),.v (.int .i64 t.x),.q 2 (qE t.es)]:=_root_.id rfl
 have h3:(aW t).take 3 = [.v (.int .i64 t.u),.v (.int .i64 t.x),.q 2 (qE t.es)]:=_root_.id rfl
 obtain ⟨p1,p2,p3⟩:=ht.1
 refine ⟨⟨_,_,rfl⟩,0,?_⟩
 simp [Dp.c,Yf,h2,h3,p1,p2,p3,h0,h1]
 exact ⟨p1,p2⟩
noncomputable abbrev aC1:=s2 bV (fR (.c .u)) eO fun t _=>if (eY t).2=0 then .io [1000] [.g (gE t)] [.c (.p 1000 0),iv .i64 0] else .io [1000] [.c .u] [.c (.v (.pointer none)),iv .i64 (eY t).2]
theorem aDv:Ok Tryz.prog 84 aC1:=Hy (aG Tryz.func84 Bb.ent Bb.aA (aB Q7 (aB Y0 aH))) [1000] [(17,1000)] 1 rfl rfl rfl rfl rfl (by simp [Bb.c]) fun t _ ht _ _=>by
 obtain ⟨p1,p2,p3⟩:=ht
 refine ⟨?_,0,?_⟩
 ·split<;>exact ⟨_,_,rfl⟩
 by_cases h:(eY t).2=0
 ·have hm:dG t:=by rw [Na] at h;exact h
  have h0:=hm.2.1
  have h1:=Df hm
  simp [Bb.c,p1,p2,p3,h,h0,h1,gE]
  exact ⟨p1,p2⟩
 ·simp [Bb.c,p1,p2,p3,h]
  exact ⟨p1,p2⟩
end Go.Proofs.YtfcbohachbeamaaGreatDoor.E
end
section
namespace Go.Proofs.YtfcbohachbeamaaGreatDoor.E
open Go.VC Go.RowKit
abbrev aKg:=s1 dV dX fun l=> .o (bv (decide (yL l)))
theorem aMd:Ok Tryz.prog 257 aKg:=cA (aG Tryz.func257 Ey.ent Ey.aA aH) (by simp [Ey.c]) fun l hl _=>by
 obtain ⟨d,s,a⟩:=l
 refine ⟨0,?_⟩
 simp [Ey.c,yL]
 grind
theorem Zj:Ok Tryz.prog 224 X6:=cA (aG Tryz.func224 Bz.ent Bz.aA aH) (by simp [Bz.c]) fun n hn _=>by
 refine ⟨0,?_⟩
 simp [Bz.c,bS]
 grind
def xI (l:Int×Int×Int):Int:=if yL l then (if bS l.1 then 0 else 2) else 1
abbrev aRo:=s1 dV dX fun l=> .o (iv .i64 (xI l))
theorem aD2:Ok Tryz.prog 221 aRo:=cA (aG Tryz.func221 Bj.ent Bj.aA (aB aMd (aB Zj aH))) (by simp [Bj.c]) fun l hl _=>by
 obtain ⟨d,s,a⟩:=l
 simp at hl
 refine ⟨0,?_⟩
 by_cases h1:yL (d,s,a)
 ·by_cases h2:bS d<;>simp [Bj.c,xI,h1,h2,hl]
 ·simp [Bj.c,xI,h1,hl]
abbrev aDM:=s1 dV dX fun l=>if xI l=0 then .t [wd (jn l),iv .i64 0] else .t [wd 0,iv .i64 (xI l)]
theorem aO9 {d s a:Int} (h1:yL (d,s,a)) (h2:bS d) : -0x80000000000000000000000000000000<=jn (d,s,a)/\jn (d,s,a)<0x80000000000000000000000000000000:=by
 simp only [yL,bS,jn] at *;omega
theorem aG8:Ok Tryz.prog 170 aDM:=cA (aG Tryz.func170 zF.ent zF.aA (aB aD2 eQ)) (by simp [zF.c]) fun l hl _=>by
 obtain ⟨d,s,a⟩:=l
 simp at hl
 refine ⟨0,?_⟩
 by_cases h0:xI (d,s,a)=0
 ·have h1:yL (d,s,a):=by unfold xI at h0;split at h0;assumption;cases h0
  have h2:bS d:=by unfold xI at h0;rw [if_pos h1] at h0;split at h0;assumption;cases h0
  have hr:=aO9 h1 h2
  simp only [yL,bS,jn] at h1 h2 hr
  have w1:IntKind.i64.wrap (d*86400)=d*86400:=aD (by omega) (by omega)
  have w2:IntKind.i64.wrap (d*86400+s)=d*86400+s:=aD (by omega) (by omega)
  have f1 : -0x8000000000000000<=d*86400+s/\d*86400+s<0x8000000000000000:=by omega
  have f2 : -0x80000000000000000000000000000000<=d*86400+s/\d*86400+s<0x80000000000000000000000000000000:=by omega
  have f3 : -0x80000000000000000000000000000000<=(d*86400+s)*0xde0b6b3a7640000/\(d*86400+s)*0xde0b6b3a7640000<0x80000000000000000000000000000000:=by omega
  have f4 : -0x80000000000000000000000000000000<=a/\a<0x80000000000000000000000000000000:=by omega
  simp [zF.c,hl,h0,w1,w2,f1,f2,f3,f4,hr,jn]
 ·simp [zF.c,hl,h0]
theorem Ro {t:Int} (h : -0x80000000000000000000000000000000<=t/\t<0x80000000000000000000000000000000):(-10000000000000000<=t/0xde0b6b3a7640000/86400/\t/0xde0b6b3a7640000/86400<10000000000000000)/\(0<=t/0xde0b6b3a7640000%86400/\t/0xde0b6b3a7640000%86400<86400)/\(0<=t%0xde0b6b3a7640000/\t%0xde0b6b3a7640000<0xde0b6b3a7640000):=by omega
abbrev aEH:=s1 bN dX fun t=>if bS (t/0xde0b6b3a7640000/86400) then .t [rH (eP t),iv .i64 0] else .t [Ih 0 0 0,iv .i64 2]
theorem Mb:Ok Tryz.prog 171 aEH:=cA (aG Tryz.func171 Aq.ent Aq.aA (aB Zj eQ)) (by simp [Aq.c]) fun t ht _=>by
 simp at ht
 refine ⟨0,?_⟩
 have q1:=Jv ht.1 ht.2 (show (0:Int)<0xde0b6b3a7640000 by decide)
 have q2:=Jv q1.1 q1.2 (show (0:Int)<86400 by decide)
 obtain ⟨r1,r2,r3⟩:=Ro ht
 have f1 : -0x8000000000000000<=t/0xde0b6b3a7640000/86400/\t/0xde0b6b3a7640000/86400<0x8000000000000000:=by omega
 have f2 : -0x8000000000000000<=t/0xde0b6b3a7640000%86400/\t/0xde0b6b3a7640000%86400<0x8000000000000000:=by omega
 have f3 : -0x8000000000000000<=t%0xde0b6b3a7640000/\t%0xde0b6b3a7640000<0x8000000000000000:=by omega
 have f4 : -0x80000000000000000000000000000000<=t/0xde0b6b3a7640000%86400/\t/0xde0b6b3a7640000%86400<0x80000000000000000000000000000000:=by omega
 have f5 : -0x80000000000000000000000000000000<=t%0xde0b6b3a7640000/\t%0xde0b6b3a7640000<0x80000000000000000000000000000000:=by omega
 by_cases h:bS (t/0xde0b6b3a7640000/86400)<;>simp [Aq.c,ht,q1,q2,f1,f2,f3,f4,f5,h,eP]
abbrev aSW:=s1 dV dX fun l=> .o (dO (jn l))
theorem aSS:Ok Tryz.prog 43 aSW:=cA (aG Tryz.func43 aPA.ent aPA.aA aP2) (by simp [aPA.c]) fun l hl _=>by
 obtain ⟨d,s,a⟩:=l
 simp at hl
 refine ⟨0,?_⟩
 have s1:cJ d:=by unfold cJ;omega
 have s2:cJ s:=by unfold cJ;omega
 have s3:cJ a:=by unfold cJ;omega
 have s4:cJ 86400:=by decide
 have s5:cJ 0xde0b6b3a7640000:=by decide
 have s6:cJ (d*86400):=by unfold cJ;omega
 have s7:cJ (d*86400+s):=by unfold cJ;omega
 have s8:cJ ((d*86400+s)*0xde0b6b3a7640000):=by unfold cJ;omega
 simp [aPA.c,hl,s1,s2,s3,s4,s5,s6,s7,s8,jn]
end Go.Proofs.YtfcbohachbeamaaGreatDoor.E
end
