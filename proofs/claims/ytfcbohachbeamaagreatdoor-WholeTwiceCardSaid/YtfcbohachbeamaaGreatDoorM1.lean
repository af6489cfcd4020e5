/- What the laws' code answers: part 1 of what the rows of this seat lean on. -/
import Derived.Deep.MidRow
import Derived.Below
import Derived.Orders
import Derived.Laws.StructEq
import Derived.Laws.BytesArg
import Derived.Laws.OwnMore
import Derived.Great.BuildSlice
import Derived.LoopN
import Derived.Scope
import Derived.Lib.ConvBytes
import Derived.Laws.Pointers
import Derived.Test.YtfcbohachbeamaaGreatDoorM0
set_option linter.unusedVariables false
set_option linter.unusedSimpArgs false
set_option maxHeartbeats 8000000
set_option maxRecDepth 100000
section
namespace Go.VC
open Go.RowKit
inductive QC where
 | v (x:Value)
 | r (e:IntKind) (l:List Int)
 | qv (m:Nat) (l:List Value)
 | kv (x:Value)
 | pN (m:Nat) (l:List Value)
inductive FC where
 | q (c:QC)
 | p (n off:Nat)
structure RT where
 e:TypeId
 m:Nat
 k:Option IntKind
inductive AC where
 | v (x:Value)
 | p (n off:Nat)
 | k (x:Value)
 | r (e:IntKind) (l:List Int)
 | s (t:RT) (n len:Nat)
 | q (m:Nat) (cs:List QC)
 | kq (cs:List QC)
 | nil (e:IntKind)
 | fn (f:Nat) (caps:List FC)
 | ik (k:IntKind)
 | u
inductive AP where
 | c (a:AC)
 | g (cs:List AC)
inductive AV where
 | o (a:AP)
 | t (l:List AP)
 | io (ns:List Nat) (outs l:List AP)
def AP.cells:AP->List AC
 | .c a=> [a]
 | .g cs=>cs
def Reads (S:Nat->Prop) (w:World) (e:IntKind) (y:Value) (l:List Int):Prop:=
 (y = .slice none 0 0/\l = []) ∨
 ∃ b o c,y = .slice (some ⟨b,o,none⟩) l.length c/\l.length<=c /\ ¬ S b/\b<w.heap.size /\ ∀ j,j<l.length->w.cell? ⟨b,o+j,none⟩=some (.int e (l.getD j 0))
def Yi (S:Nat->Prop) (w:World) (m:Nat) (y:Value) (l:List Value):Prop:=
 (y = .slice none 0 0/\l = []) ∨
 ∃ b o n c,y = .slice (some ⟨b,o,none⟩) n c/\l.length=n*m/\n<=c /\ ¬ S b/\b<w.heap.size /\ ∀ j x,l[j]? = some x->w.cell? ⟨b,o+j,none⟩=some x/\x.oneCell'=true
def QC.rep (S:Nat->Prop) (w:World):QC->Value->Prop
 | .v x,y=>y=x/\x.oneCell'=true
 | .r e l,y=>Reads S w e y l
 | .qv m l,y=>Yi S w m y l
 | .kv x,y=>x.oneCell'=true /\ ∃ b o,y = .pointer (some ⟨b,o,none⟩) /\ ¬ S b/\b<w.heap.size/\w.cell? ⟨b,o,none⟩=some x
 | .pN m l,y=> ∃ b o,y = .pointer (some ⟨b,o,none⟩) /\ ¬ S b/\b<w.heap.size /\ ∃ z,w.cell? ⟨b,o,none⟩=some z/\Yi S w m z l
def tJ (S:Nat->Prop) (w:World) (b o:Nat) (cs:List QC):Prop:= ∀ j c,cs[j]? = some c -> ∃ v,w.cell? ⟨b,o+j,none⟩=some v/\c.rep S w v
def nY (S:Nat->Prop) (w:World) (m:Nat) (y:Value) (cs:List QC):Prop:=
 (y = .slice none 0 0/\cs = []) ∨
 ∃ b o n c,y = .slice (some ⟨b,o,none⟩) n c/\cs.length=n*m/\n<=c /\ ¬ S b/\b<w.heap.size/\tJ S w b o cs
structure aY where
 S:Nat->Prop
 μ : Nat->Nat
 D:Nat->Prop
def FC.rep (L:aY) (w:World):FC->Value->Prop
 | .q c,y=>c.rep L.S w y
 | .p n off,y=>L.D n/\y = .pointer (some ⟨L.μ n,off,none⟩)
def lP (L:aY) (w:World):List FC->List Value->Prop
 | [],[]=>True
 | a::aRR,y::ys=>a.rep L w y/\lP L w aRR ys
 | _,_=>False
def AC.rep (L:aY) (w:World):AC->Value->Prop
 | .v x,y=>y=x/\x.oneCell'=true
 | .p n off,y=>L.D n/\y = .pointer (some ⟨L.μ n,off,none⟩)
 | .k x,y=>x.oneCell'=true /\ ∃ b o,y = .pointer (some ⟨b,o,none⟩) /\ ¬ L.S b/\b<w.heap.size/\w.cell? ⟨b,o,none⟩=some x
 | .r e l,y=>Reads L.S w e y l
 | .s t n len,y=>L.D n /\ ∃ cap,y = .slice (some ⟨L.μ n,0,none⟩) len cap/\w.shape? (L.μ n)=some (t.e,cap*t.m)/\len<=cap/\cap<=maxLen
 | .q m cs,y=>nY L.S w m y cs
 | .kq cs,y=> ∃ b o,y = .pointer (some ⟨b,o,none⟩) /\ ¬ L.S b/\b<w.heap.size/\tJ L.S w b o cs
 | .nil _,y=>y = .slice none 0 0
 | .fn f caps,y=> ∃ ys:List Value,y = .func (.func f) #[] ys.toArray/\lP L w caps ys
 | .ik kd,y=> ∃ n,y = .int kd n
 | .u,_=>True
def bE (L:aY) (w:World):List AC->List Value->Prop
 | [],[]=>True
 | a::aRR,y::ys=>a.rep L w y/\bE L w aRR ys
 | _,_=>False
def AP.rep (L:aY) (w:World):AP->Value->Prop
 | .c a,y=>a.rep L w y
 | .g cs,y=> ∃ ys:List Value,y = .agg ys.toArray/\bE L w cs ys
def cP (L:aY) (w:World):List AP->List Value->Prop
 | [],[]=>True
 | a::aRR,y::ys=>a.rep L w y/\cP L w aRR ys
 | _,_=>False
def AV.rep (L:aY) (w:World):AV->Value->Prop
 | .o a,y=>a.rep L w y
 | .t l,y=> ∃ ys:List Value,y = .tuple ys.toArray/\cP L w l ys
 | .io _ _ _,_=>False
structure Ext (L:aY) (w:World) (L':aY) (w':World):Prop where
 D : ∀ n,L.D n->L'.D n/\L'.μ n=L.μ n
 gF : ∀ b,¬ L.S b->b<w.heap.size->w'.heap[b]? = w.heap[b]? /\ ¬ L'.S b
 size:w.heap.size<=w'.heap.size
 mJ : ∀ n,L.D n->w'.shape? (L.μ n)=w.shape? (L.μ n)
theorem Ext.cell {L L':aY} {w w':World} (h:Ext L w L' w') {b o:Nat} {x:Value} (hb : ¬ L.S b) (hlt:b<w.heap.size) (hc:w.cell? ⟨b,o,none⟩=some x):w'.cell? ⟨b,o,none⟩=some x:=by
 have:=(h.gF b hb hlt).1
 unfold World.cell? at hc ⊢
 simp only [this]
 exact hc
theorem Reads.ext {L L':aY} {w w':World} (h:Ext L w L' w') {e:IntKind} {y:Value} {l:List Int} (hr:Reads L.S w e y l):Reads L'.S w' e y l:=by
 rcases hr with hr | ⟨b,o,c,h1,h2,h3,h4,h5⟩
 ·exact .inl hr
 ·exact .inr ⟨b,o,c,h1,h2,(h.gF b h3 h4).2,Nat.lt_of_lt_of_le h4 h.size,fun j hj=>h.cell h3 h4 (h5 j hj)⟩
theorem QC.dU {L L':aY} {w w':World} (h:Ext L w L' w') {c:QC} {y:Value} (hr:c.rep L.S w y):c.rep L'.S w' y:=by
 cases c with
 | v x=>exact hr
 | r e l=>exact Reads.ext (e:=e) (l:=l) h hr
 | qv m l=>
  rcases hr with hr | ⟨b,o,n,c,h1,h2,h3,h4,h5,h6⟩
  ·exact .inl hr
  ·exact .inr ⟨b,o,n,c,h1,h2,h3,(h.gF b h4 h5).2,Nat.lt_of_lt_of_le h5 h.size,fun j x hj=>⟨h.cell h4 h5 (h6 j x hj).1,(h6 j x hj).2⟩⟩
 | kv x=>obtain ⟨h0,b,o,h1,h2,h3,h4⟩:=hr;exact ⟨h0,b,o,h1,(h.gF b h2 h3).2,Nat.lt_of_lt_of_le h3 h.size,h.cell h2 h3 h4⟩
 | pN m l=>
  obtain ⟨b',o',g1,g2,g3,z,g4,hr⟩:=hr
  refine ⟨b',o',g1,(h.gF b' g2 g3).2,Nat.lt_of_lt_of_le g3 h.size,z,h.cell g2 g3 g4,?_⟩
  rcases hr with hr | ⟨b,o,n,c,h1,h2,h3,h4,h5,h6⟩
  ·exact .inl hr
  ·exact .inr ⟨b,o,n,c,h1,h2,h3,(h.gF b h4 h5).2,Nat.lt_of_lt_of_le h5 h.size,fun j x hj=>⟨h.cell h4 h5 (h6 j x hj).1,(h6 j x hj).2⟩⟩
theorem Ot {L L':aY} {w w':World} (h:Ext L w L' w') : ∀ {aRR:List FC} {ys:List Value},lP L w aRR ys->lP L' w' aRR ys
 | [],[],_=>trivial
 | [],_::_,hr=>hr.elim
 | _::_,[],hr=>hr.elim
 | .q c::_,_::_,hr=>⟨QC.dU (c:=c) h hr.1,Ot h hr.2⟩
 | .p n off::_,_::_,hr=>⟨⟨(h.D n hr.1.1).1,by rw [(h.D n hr.1.1).2];exact hr.1.2⟩,Ot h hr.2⟩
theorem tJ.ext {L L':aY} {w w':World} (h:Ext L w L' w') {b o:Nat} {cs:List QC} (hb : ¬ L.S b) (hlt:b<w.heap.size) (hs:tJ L.S w b o cs):tJ L'.S w' b o cs:=fun j c hj=>by
 obtain ⟨v,h1,h2⟩:=hs j c hj
 exact ⟨v,h.cell hb hlt h1,QC.dU h h2⟩
theorem AC.dU {L L':aY} {w w':World} (h:Ext L w L' w') {a:AC} {y:Value} (hr:a.rep L w y):a.rep L' w' y:=by
 cases a with
 | v x=>exact hr
 | p n off=>obtain ⟨h1,h2⟩:=hr;exact ⟨(h.D n h1).1,by rw [(h.D n h1).2];exact h2⟩
 | k x=>obtain ⟨h0,b,o,h1,h2,h3,h4⟩:=hr;exact ⟨h0,b,o,h1,(h.gF b h2 h3).2,Nat.lt_of_lt_of_le h3 h.size,h.cell h2 h3 h4⟩
 | r e l=>exact Reads.ext (e:=e) (l:=l) h hr
 | s t n len=>
  obtain ⟨h1,cap,h2,h3,h4,h5⟩:=hr
  obtain ⟨h6,h7⟩:=h.D n h1
  exact ⟨h6,cap,by rw [h7];exact h2,by rw [h7,h.mJ n h1];exact h3,h4,h5⟩
 | q m cs=>
  rcases hr with hr | ⟨b,o,n,c,h1,h2,h3,h4,h5,h6⟩
  ·exact .inl hr
  ·exact .inr ⟨b,o,n,c,h1,h2,h3,(h.gF b h4 h5).2,Nat.lt_of_lt_of_le h5 h.size,h6.ext h h4 h5⟩
 | kq cs=>
  obtain ⟨b,o,h1,h2,h3,h4⟩:=hr
  exact ⟨b,o,h1,(h.gF b h2 h3).2,Nat.lt_of_lt_of_le h3 h.size,h4.ext h h2 h3⟩
 | nil e=>exact hr
 | fn f caps=>obtain ⟨ys,h1,h2⟩:=hr;exact ⟨ys,h1,Ot h h2⟩
 | ik k=>exact hr
 | u=>trivial
theorem nB {L L':aY} {w w':World} (h:Ext L w L' w') : ∀ {aRR:List AC} {ys:List Value},bE L w aRR ys->bE L' w' aRR ys
 | [],[],_=>trivial
 | [],_::_,hr=>hr.elim
 | _::_,[],hr=>hr.elim
 | _::_,_::_,hr=>⟨AC.dU h hr.1,nB h hr.2⟩
theorem AP.dU {L L':aY} {w w':World} (h:Ext L w L' w') {a:AP} {y:Value} (hr:a.rep L w y):a.rep L' w' y:=by
 cases a with
 | c a=>exact AC.dU (a:=a) h hr
 | g cs=>obtain ⟨ys,h1,h2⟩:=hr;exact ⟨ys,h1,nB h h2⟩
theorem Kw {L L':aY} {w w':World} (h:Ext L w L' w') : ∀ {aRR:List AP} {ys:List Value},cP L w aRR ys->cP L' w' aRR ys
 | [],[],_=>trivial
 | [],_::_,hr=>hr.elim
 | _::_,[],hr=>hr.elim
 | _::_,_::_,hr=>⟨AP.dU h hr.1,Kw h hr.2⟩
theorem AV.dU {L L':aY} {w w':World} (h:Ext L w L' w') {a:AV} {y:Value} (hr:a.rep L w y):a.rep L' w' y:=by
 cases a with
 | o a=>exact AP.dU (a:=a) h hr
 | t l=>obtain ⟨ys,h1,h2⟩:=hr;exact ⟨ys,h1,Kw h h2⟩
 | io a b l=>exact hr
theorem kP {L:aY} {w:World} : ∀ {aRR:List AC} {ys:List Value},bE L w aRR ys->aRR.length=ys.length
 | [],[],_=>rfl
 | [],_::_,hr=>hr.elim
 | _::_,[],hr=>hr.elim
 | _::_,_::_,hr=>by simp [kP hr.2]
theorem Ga {L:aY} {w:World} : ∀ {aRR:List AC} {ys:List Value} (i:Nat) {a:AC},bE L w aRR ys->aRR[i]? = some a -> ∃ y,ys[i]? = some y/\a.rep L w y
 | [],[],_,_,_,h=>by simp at h
 | [],_::_,_,_,hr,_=>hr.elim
 | _::_,[],_,_,hr,_=>hr.elim
 | _::_,y::_,0,_,hr,h=>by simp at h;subst h;exact ⟨y,rfl,hr.1⟩
 | _::_,_::_,i+1,_,hr,h=>by simpa using Ga i hr.2 (by simpa using h)
theorem wY {L:aY} {w:World} : ∀ {aRR:List AC} {ys:List Value} (n:Nat),bE L w aRR ys->bE L w (aRR.drop n) (ys.drop n)
 | [],[],_,_=>by simp [bE]
 | [],_::_,_,hr=>hr.elim
 | _::_,[],_,hr=>hr.elim
 | _::_,_::_,0,hr=>hr
 | _::_,_::_,n+1,hr=>wY n hr.2
theorem oH {L:aY} {w:World} : ∀ {aRR:List AC} {ys:List Value} (n:Nat),bE L w aRR ys->bE L w (aRR.take n) (ys.take n)
 | [],[],_,_=>by simp [bE]
 | [],_::_,_,hr=>hr.elim
 | _::_,[],_,hr=>hr.elim
 | _::_,_::_,0,_=>by simp [bE]
 | _::_,_::_,n+1,hr=>⟨hr.1,oH n hr.2⟩
theorem vP {L:aY} {w:World} : ∀ {aRR bs:List AC} {ys zs:List Value},bE L w aRR ys->bE L w bs zs->bE L w (aRR++bs) (ys++zs)
 | [],_,[],_,_,h=>h
 | [],_,_::_,_,hr,_=>hr.elim
 | _::_,_,[],_,hr,_=>hr.elim
 | _::_,_,_::_,_,hr,h=>⟨hr.1,vP hr.2 h⟩
def AC.known:AC->Bool
 | .u=>false
 | _=>true
theorem AC.Xs {L:aY} {w:World} {a:AC} {y:Value} (hk:a.known=true) (hr:a.rep L w y):y.oneCell'=true:=by
 cases a with
 | v x=>obtain ⟨rfl,h⟩:=hr;exact h
 | p n off=>obtain ⟨_,rfl⟩:=hr;rfl
 | k x=>obtain ⟨_,b,o,rfl,_⟩:=hr;rfl
 | r e l=>rcases hr with ⟨rfl,_⟩ | ⟨b,o,c,rfl,_⟩<;>rfl
 | s t n len=>obtain ⟨_,cap,rfl,_⟩:=hr;rfl
 | q m cs=>rcases hr with ⟨rfl,_⟩ | ⟨b,o,n,c,rfl,_⟩<;>rfl
 | kq cs=>obtain ⟨b,o,rfl,_⟩:=hr;rfl
 | nil e=>cases hr;rfl
 | fn f caps=>obtain ⟨ys,rfl,_⟩:=hr;rfl
 | ik k=>obtain ⟨n,rfl⟩:=hr;rfl
 | u=>cases hk
theorem Xj {L:aY} {w:World} : ∀ {aRR:List AC} {ys:List Value},aRR.all (·.known)=true->bE L w aRR ys -> ∀ y∈ys,y.oneCell'=true
 | [],[],_,_=>by simp
 | [],_::_,_,hr=>hr.elim
 | _::_,[],_,hr=>hr.elim
 | _::_,_::_,hk,hr=>by
  simp only [List.all_cons,Bool.and_eq_true] at hk
  intro y hy
  rcases List.mem_cons.1 hy with rfl | hy
  ·exact AC.Xs hk.1 hr.1
  ·exact Xj hk.2 hr.2 y hy
end Go.VC
namespace Go.VC
open Go.RowKit
inductive SA where
 | t (n:Nat)
 | k (x:Value)
 | nil (e:IntKind)
 | g (xs:List AC)
 | f (n:Nat)
inductive bA where
 | mv (x:SA)
 | pick (c a b:SA)
 | alloc (z:List AC)
 | box (x:SA)
 | build (z:List AC) (parts:List (Nat×Nat×SA))
 | load (agg:Bool) (size:Nat) (p:SA) (nm:Option Nat)
 | store (size:Nat) (p x:SA) (nm:Nat)
 | aI (off:Nat) (p:SA)
 | part (agg:Bool) (off size:Nat) (x:SA)
 | bin (op:BinOp) (x y:SA)
 | qD (ne:Bool) (x y:SA)
 | eqs (ne:Bool) (ks:List IntKind) (x y:SA)
 | not (x:SA)
 | neg (x:SA)
 | cH (k:IntKind) (x:SA)
 | ext (x:SA) (i:Nat)
 | call (f:Nat) (args:List SA)
 | len (x:SA)
 | idx (m:Nat) (x i:SA)
 | sl (x:SA) (lo hi:Option SA)
 | min (x y:SA)
 | str (x:SA)
 | nL (ne:Bool) (x y:SA)
 | rL (t:RT) (z:Value) (n:SA)
 | fX (t:RT) (z:List AC) (n:Nat) (parts:List (Nat×Nat×SA))
 | sG (t:RT) (z:List AC) (n:Nat) (parts:List (Nat×Nat×SA))
 | app (t:RT) (x y:SA)
 | lO (f:Nat) (args:List SA)
 | zE (f:Nat) (args:List SA)
 | cap (x:SA)
 | Bl (t:RT) (x n:SA)
 | cB (x:SA)
 | gW (ne:Bool) (x:SA)
 | vZ (f:Nat) (caps:List SA)
 | dyn (x:SA) (args:List SA)
 | rG (x:SA)
 | nJ (x i:SA)
 | kZ (x:SA) (lo hi:Option SA)
 | cat (x y:SA)
 | mQ (x:SA)
 | yA (m:Nat) (x:SA) (lo hi:Option SA)
 | dN (m n:Nat) (x i:SA)
 | Be (n:Nat) (x i:SA)
 | Ax (x:SA)
 | aM (f:Nat) (args:List SA) (ρ : List (Nat×Nat))
 | yU (ne:Bool) (x:SA)
structure bW where
 dst:Option Nat
 op:bA
 guard:Option (Nat×Bool)
inductive SC where
 | skip
 | region (ops:List bW)
 | seq (a b:SC)
 | cond (c:SA) (a b:SC)
 | block (id:Nat) (a:SC)
 | loop (a:SC)
 | forget (ns:List Nat) (a:SC)
 | scope (a:SC)
 | exit (id:Nat)
 | ret
 | bad
structure St where
 tm:Nat->AV
 mem:Nat->Option (List AC)
def aP {α : Type} (f:Nat -> α) (n:Nat) (x : α):Nat -> α := fun m=>if m=n then x else f m
abbrev Spec:=Nat->List AP->Option AV
def SA.ev (s:St):SA->AV
 | .t n=>s.tm n
 | .k x=> .o (.c (.v x))
 | .nil e=> .o (.c (.nil e))
 | .g xs=> .o (.g xs)
 | .f n=> .o (.c (.fn n []))
def AV.val:AV->Option Value
 | .o (.c (.v x))=>some x
 | _=>none
def AV.ptr:AV->Option (Nat×Nat)
 | .o (.c (.p n off))=>some (n,off)
 | _=>none
def AV.part:AV->Option AP
 | .o a=>some a
 | _=>none
def AV.agg:AV->Option (List AC)
 | .o (.g cs)=>some cs
 | _=>none
def AV.row (e:IntKind):AV->Option (List Int)
 | .o (.c (.r e' l))=>if e=e' then some l else none
 | .o (.c (.nil _))=>some []
 | _=>none
def AV.zJ:AV->Option Nat
 | .o (.c (.r _ l))=>some l.length
 | .o (.c (.s _ _ n))=>some n
 | .o (.c (.q m cs))=>if m=0 then none else some (cs.length/m)
 | .o (.c (.nil _))=>some 0
 | _=>none
def Value.b? : Value->Option Bool
 | .bool b=>some b
 | _=>none
def Value.i? : Value->Option (IntKind×Int)
 | .int k n=>some (k,n)
 | _=>none
def cX (op:BinOp) (k:IntKind) (a b:Int):Int:=
 match op with
 | .and=>k.wrap (BitVec.ofInt k.bits a &&& BitVec.ofInt k.bits b).toNat
 | .or=>k.wrap (BitVec.ofInt k.bits a ||| BitVec.ofInt k.bits b).toNat
 | .xor=>k.wrap (BitVec.ofInt k.bits a ^^^ BitVec.ofInt k.bits b).toNat
 | _=>k.wrap (BitVec.ofInt k.bits a &&& ~~~ BitVec.ofInt k.bits b).toNat
def AC.u7:AC->Option Bool
 | .p _ _ | .k _ | .kq _=>some false
 | .v (.pointer none)=>some true
 | _=>none
def AV.Hw:AV->Bool
 | .o (.c (.p _ _))| .o (.c (.k _))| .o (.c (.kq _))=>true
 | _=>false
def mB:List QC->Option (List Value)
 | []=>some []
 | .v x::cs=>match mB cs with
  | some l=>some (x::l)
  | none=>none
 | _=>none
def AC.qc:AC->Option QC
 | .v x=>some (.v x)
 | .r e l=>some (.r e l)
 | .q m cs=>match mB cs with
  | some l=>some (.qv m l)
  | none=>none
 | _=>none
def AC.fc:AC->Option FC
 | .p n off=>some (.p n off)
 | a=>match a.qc with
  | some z=>some (FC.q z)
  | none=>none
def tK:List AP->Option (List FC)
 | []=>some []
 | .c a::aRR=>match a.fc,tK aRR with
  | some q,some qs=>some (q::qs)
  | _,_=>none
 | _=>none
def uY:List FC->Option (List QC)
 | []=>some []
 | .q c::r=>match uY r with
  | some l=>some (c::l)
  | none=>none
 | .p _ _::_=>none
def FC.Ia:FC->Bool
 | FC.q _=>true
 | FC.p _ _=>false
def FC.jA (ns:List Nat):FC->Bool
 | .q _=>true
 | .p n _=> !(ns.contains n)
def Oc:List FC->List Nat
 | []=> []
 | .q _::r=>Oc r
 | .p n _::r=>n::Oc r
def AC.pq:AC->Option FC
 | AC.v x=>some (FC.q (QC.kv x))
 | AC.q m cs=>match mB cs with
  | some l=>some (FC.q (QC.pN m l))
  | none=>none
 | _=>none
def pS (n:Nat) (cs:List AC):List FC->Option (List FC)
 | []=>some []
 | .q c::r=>match pS n cs r with
  | some l=>some (.q c::l)
  | none=>none
 | .p m off::r=>match pS n cs r with
  | some l=>if m=n then (match cs[off]? with
   | some a=>match a.pq with
    | some c=>some (c::l)
    | none=>none
   | none=>none) else some (.p m off::l)
  | none=>none
def Bi:List AC->Option (List QC)
 | []=>some []
 | a::r=>match a.qc,Bi r with
  | some q,some l=>some (q::l)
  | _,_=>none
def AC.free:AC->Bool
 | .p _ _=>false
 | .s _ _ _=>false
 | .fn _ caps=>caps.all (·.Ia)
 | _=>true
def AP.free:AP->Bool
 | .c a=>a.free
 | .g cs=>cs.all (·.free)
def AV.uB:AV->Bool
 | .io _ _ _=>true
 | _=>false
def AV.free:AV->Bool
 | .o a=>a.free
 | .t l=>l.all (·.free)
 | .io _ _ _=>false
def Ii (op:BinOp) (k:IntKind) (a b:Int):Option Value:=
 match op with
 | .add=>some (.int k (k.wrap (a+b)))
 | .sub=>some (.int k (k.wrap (a-b)))
 | .mul=>some (.int k (k.wrap (a*b)))
 | .quo=>if b=0 then none else some (.int k (k.wrap (a.tdiv b)))
 | .rem=>if b=0 then none else some (.int k (a.tmod b))
 | .and=>some (.int k (cX .and k a b))
 | .or=>some (.int k (cX .or k a b))
 | .xor=>some (.int k (cX .xor k a b))
 | .andNot=>some (.int k (cX .andNot k a b))
 | .eql=>some (.bool (a==b))
 | .neq=>some (.bool (a != b))
 | .lss=>some (.bool (decide (a<b)))
 | .leq=>some (.bool (decide (a<=b)))
 | .gtr=>some (.bool (decide (a>b)))
 | .geq=>some (.bool (decide (a≥b)))
 | _=>none
def sM (op:BinOp) (x y:Value):Option Value:=
 match x,y with
 | .int k a,.int k' b=>
  match op with
  | .shl=>if b<0 then none else some (.int k (k.wrap (a*2 ^ min b.toNat k.bits)))
  | .shr=>if b<0 then none else some (.int k (a.fdiv (2 ^ min b.toNat k.bits)))
  | op=>if k=k' then Ii op k a b else none
 | _,_=>none
def bJ:List IntKind->List AC->List AC->Option Bool
 | [],[],[]=>some true
 | k::ks,.v (.int k1 a)::aRR,.v (.int k2 b)::bs=>if k1=k/\k2=k then (bJ ks aRR bs).map fun r=>(a==b)&&r else none
 | _,_,_=>none
def AP.ok:AP->Bool
 | .c .u=>false
 | _=>true
def kH (cs:List AC) (off:Nat) (ys:List AC):List AC:=cs.take off++ys++cs.drop (off+ys.length)
def eZ (s:St):List AC->List (Nat×Nat×SA)->Option (List AC)
 | cs,[]=>some cs
 | cs,(off,size,x)::rest=>
  match (x.ev s).part with
  | some a=>if a.ok=true/\a.cells.length=size/\off+size<=cs.length then eZ s (kH cs off a.cells) rest else none
  | none=>none
def dC (s:St):List SA->Option (List AP)
 | []=>some []
 | x::xs=>match (x.ev s).part,dC s xs with
  | some a,some aRR=>some (a::aRR)
  | _,_=>none
def bO (s:St):Option SA->Int->Option Int
 | none,d=>some d
 | some x,_=>match (x.ev s).val with
  | some (.int _ i)=>some i
  | _=>none
def AC.wk:AC->AC
 | .nil e=> .r e []
 | a=>a
def AP.wk:AP->AP
 | .c a=> .c a.wk
 | .g cs=> .g (cs.map AC.wk)
def QC.ac:QC->AC
 | .v x=> .v x
 | .r e l=> .r e l
 | .qv m l=> .q m (l.map .v)
 | .kv x=> .k x
 | .pN m l=> .kq [.qv m l]
def AC.kill (ns:List Nat):AC->AC
 | .p n off=>if n∈ns then .u else .p n off
 | .s t n len=>if n∈ns then .u else .s t n len
 | .fn f caps=>if caps.all (·.jA ns)=true then .fn f caps else .u
 | a=>a
def AP.kill (ns:List Nat):AP->AP
 | .c a=> .c (a.kill ns)
 | .g cs=> .g (cs.map (·.kill ns))
def AV.kill (ns:List Nat):AV->AV
 | .o a=> .o (a.kill ns)
 | .t l=> .t (l.map (·.kill ns))
 | .io a b l=> .io a b l
def St.drop (s:St) (ns:List Nat):St:=
 { tm:=fun t=>(s.tm t).kill ns,mem:=fun n=>if n∈ns then none else match s.mem n with | some cs=>some (cs.map (·.kill ns))| none=>none }
def fY (t:RT) (s:St):AV->Option (List Nat×Nat×List AC)
 | .o (.c (.s t' n len))=>match s.mem n with
  | some cs=>if t'.e=t.e/\t'.m=t.m/\len*t.m<=cs.length/\n<1000 then some ([n],len,cs.take (len*t.m)) else none
  | none=>none
 | .o (.c (.nil _))=>some ([],0,[])
 | _=>none
def fE (m:Nat) (s:St):AV->Option (List Nat×Nat×List AC)
 | .o (.c (.s t n len))=>match s.mem n with
  | some cs=>if t.m=m/\len*m<=cs.length then some ([n],len,cs.take (len*m)) else none
  | none=>none
 | .o (.c (.r e l))=>if m=1 then some ([],l.length,l.map fun x=> .v (.int e x)) else none
 | .o (.c (.q m' cs))=>if m'=m/\0<m then some ([],cs.length/m,cs.map (·.ac)) else none
 | .o (.c (.nil _))=>some ([],0,[])
 | _=>none
def rQ (k:IntKind):List AC->Option (List Int)
 | []=>some []
 | .v (.int k' x)::cs=>if k'=k then
  match rQ k cs with
  | some l=>some (x::l)
  | none=>none
  else none
 | _=>none
def pL:List AC->Option (List QC)
 | []=>some []
 | .v x::cs=>match pL cs with
  | some l=>some (.v x::l)
  | none=>none
 | .r e l'::cs=>match pL cs with
  | some l=>some (.r e l'::l)
  | none=>none
 | _=>none
def fS (t:RT) (len:Nat) (cs:List AC):AC:=
 if len*t.m<=cs.length then
  match t.k with
  | some k=>if t.m=1 then
   match rQ k (cs.take len) with
   | some l=> .r k l
   | none=> .u
   else .u
  | none=>match pL (cs.take (len*t.m)) with
   | some l=> .q t.m l
   | none=> .u
 else .u
def Am (cs:List AC) (off:Nat):AC:=match Bi (cs.drop off) with
 | some l=> .kq l
 | none=> .u
def AC.rel (n:Nat) (cs:List AC):AC->AC
 | .p n' off=>if n'=n then Am cs off else .p n' off
 | .fn f caps=>match pS n cs caps with
  | some l=> .fn f l
  | none=> .u
 | .s t n' len=>if n'=n then fS t len cs else .s t n' len
 | a=>a
def AP.rel (n:Nat) (cs:List AC):AP->AP
 | .c a=> .c (a.rel n cs)
 | .g aRR=> .g (aRR.map (·.rel n cs))
def AV.rel (n:Nat) (cs:List AC):AV->AV
 | .o a=> .o (a.rel n cs)
 | .t l=> .t (l.map (·.rel n cs))
 | .io a b l=> .io a b l
def St.pG (s:St) (n:Nat):St:=
 match s.mem n with
 | some cs=> { tm:=fun t=>(s.tm t).rel n cs,mem:=fun m=>if m=n then none else match s.mem m with | some c=>some (c.map (·.rel n cs))| none=>none }
 | none=>s
def St.rel (s:St) (n:Nat):St:=if 1000<=n then s else s.pG n
def St.hY (s:St):List Nat->St
 | []=>s
 | n::ns=>(s.rel n).hY ns
def AC.rows:AC->List Nat
 | .s _ n _=> [n]
 | _=> []
def rF:List AC->List Nat
 | []=> []
 | c::cs=>c.rows++rF cs
def uW:List AP->List Nat
 | []=> []
 | a::aRR=>rF a.cells++uW aRR
def aBn (s:St):AC->List Nat
 | .s t n _=>match t.k with
  | some _=> [n]
  | none=>match s.mem n with
   | some cs=>rF cs ++ [n]
   | none=> [n]
 | .fn _ caps=>Oc caps
 | .p n _=>match s.mem n with
  | some cs=>rF cs ++ [n]
  | none=> [n]
 | _=> []
def Ql (s:St):List AC->List Nat
 | []=> []
 | c::cs=>aBn s c++Ql s cs
def tX (s:St):List AP->List Nat
 | []=> []
 | a::aRR=>Ql s a.cells++tX s aRR
def cN:List (Nat×Nat)->Nat->Option Nat
 | [],_=>none
 | (a,b)::r,n=>if a=n then some b else cN r n
def swp:List (Nat×Nat)->List (Nat×Nat)
 | []=> []
 | (a,b)::r=>(b,a)::swp r
def AC.gH (ρ : List (Nat×Nat)):AC->Option AC
 | .p n off=>match cN ρ n with
  | some m=>some (.p m off)
  | none=>none
 | .s _ _ _=>none
 | .fn f caps=>if caps.all (·.Ia)=true then some (.fn f caps) else none
 | a=>some a
def jI (ρ : List (Nat×Nat)):List AC->Option (List AC)
 | []=>some []
 | a::aRR=>match a.gH ρ,jI ρ aRR with
  | some b,some bs=>some (b::bs)
  | _,_=>none
def AP.gH (ρ : List (Nat×Nat)):AP->Option AP
 | .c a=>match a.gH ρ with
  | some b=>some (.c b)
  | none=>none
 | .g cs=>match jI ρ cs with
  | some bs=>some (.g bs)
  | none=>none
def eL (ρ : List (Nat×Nat)):List AP->Option (List AP)
 | []=>some []
 | a::aRR=>match a.gH ρ,eL ρ aRR with
  | some b,some bs=>some (b::bs)
  | _,_=>none
def lk:List Nat->List AP->Nat->Option (List AC)
 | k::ks,c::cs,n=>if k=n then (match c with | .g x=>some x | .c _=>none) else lk ks cs n
 | _,_,_=>none
def bG (mem:Nat->Option (List AC)) (σ : List (Nat×Nat)):List (Nat×Nat)->Option (List AP)
 | []=>some []
 | (_,n)::r=>match mem n,bG mem σ r with
  | some cs,some l=>match jI σ cs with
   | some x=>some (.g x::l)
   | none=>none
  | none,some l=>some (.c .u::l)
  | _,none=>none
def lY (mem:Nat->Option (List AC)):List (Nat×Nat)->List AP->Bool
 | (_,n)::r,c::cs=>(match c with | .c _=>true | .g _=>decide (n<1000)||(mem n).isSome)&&lY mem r cs
 | _,_=>true
def iL:List (Nat×Nat)->List AP->(Nat->Option (List AC))->Nat->Option (List AC)
 | (_,n)::r,c::cs,m=>aP (iL r cs m) n (match c with | .g x=>some x | .c _=>none)
 | _,_,m=>m
def mP:List AP->AV
 | [a]=> .o a
 | l=> .t l
def nodup:List Nat->Bool
 | []=>true
 | a::aRR=> !(aRR.contains a)&&nodup aRR
def aC (sp:Spec) (d:Option Nat) (o:bA) (s:St):Option (AV×St):=
 match o with
 | .mv x=>some (x.ev s,s)
 | .pick c a b=>match (c.ev s).val with
  | some (.bool t)=>some (if t then a.ev s else b.ev s,s)
  | _=>none
 | .alloc z=>match d with
  | some n=>match s.mem n with
   | none=>some (.o (.c (.p n 0)),{ s with mem:=aP s.mem n (some z) })
   | some _=>none
  | none=>none
 | .box x=>match d,(x.ev s).part with
  | some n,some a=>match s.mem n with
   | none=>if a.ok=true then some (.o (.c (.p n 0)),{ s with mem:=aP s.mem n (some a.cells) }) else none
   | some _=>none
  | _,_=>none
 | .build z parts=>match eZ s z parts with
  | some cs=>some (.o (.g cs),s)
  | none=>none
 | .load agg size p nm=>match p.ev s with
  | .o (.c (.p n off))=>if nm=some n then
   match s.mem n with
   | some cs=>if off+size<=cs.length then
    if agg then some (.o (.g ((cs.drop off).take size)),s)
    else match cs[off]? with
     | some a=>if size=1 then some (.o (.c a),s) else none
     | none=>none
    else none
   | none=>none
   else none
  | .o (.c (.k x))=>if agg then none else if size=1 then some (.o (.c (.v x)),s) else none
  | .o (.c (.kq cs))=>if size<=cs.length then
   if agg then some (.o (.g ((cs.take size).map (·.ac))),s)
   else match cs[0]? with
    | some c=>if size=1 then some (.o (.c c.ac),s) else none
    | none=>none
   else none
  | _=>none
 | .store size p x nm=>match (p.ev s).ptr,(x.ev s).part with
  | some (n,off),some a=>if nm=n then
   match s.mem n with
   | some cs=>if a.cells.length=size/\off+size<=cs.length/\a.cells.all (·.known)=true then some (.o (.c .u),{ s with mem:=aP s.mem n (some (kH cs off a.cells)) }) else none
   | none=>none
   else none
  | _,_=>none
 | .aI off p=>match p.ev s with
  | .o (.c (.p n o))=>some (.o (.c (.p n (o+off))),s)
  | .o (.c (.kq cs))=>some (.o (.c (.kq (cs.drop off))),s)
  | _=>none
 | .part agg off size x=>match (x.ev s).agg with
  | some cs=>if off+size<=cs.length then
   if agg then some (.o (.g ((cs.drop off).take size)),s)
   else match cs[off]? with
    | some a=>some (.o (.c a),s)
    | none=>none
   else none
  | none=>none
 | .bin op x y=>match (x.ev s).val,(y.ev s).val with
  | some a,some b=>match sM op a b with
   | some v=>some (.o (.c (.v v)),s)
   | none=>none
  | _,_=>none
 | .qD ne x y=>match (x.ev s).val,(y.ev s).val with
  | some (.bool a),some (.bool b)=>some (.o (.c (.v (.bool (if ne then !(a==b) else a==b)))),s)
  | _,_=>none
 | .eqs ne ks x y=>match (x.ev s).agg,(y.ev s).agg with
  | some aRR,some bs=>match bJ ks aRR bs with
   | some r=>some (.o (.c (.v (.bool (if ne then !r else r)))),s)
   | none=>none
  | _,_=>none
 | .not x=>match (x.ev s).val with
  | some (.bool a)=>some (.o (.c (.v (.bool !a))),s)
  | _=>none
 | .neg x=>match (x.ev s).val with
  | some (.int k a)=>some (.o (.c (.v (.int k (k.wrap (0-a))))),s)
  | _=>none
 | .cH k x=>match (x.ev s).val with
  | some (.int _ a)=>some (.o (.c (.v (.int k (k.wrap a)))),s)
  | _=>none
 | .ext x i=>match x.ev s with
  | .t l=>match l[i]? with
   | some a=>some (.o a,s)
   | none=>none
  | _=>none
 | .call f args=>match dC s args with
  | some aRR=>if aRR.all (·.free)=true then
   match sp f (aRR.map AP.wk) with
   | some r=>if r.free=true then some (r,s) else none
   | none=>none
   else none
  | none=>none
 | .len x=>match (x.ev s).zJ with
  | some n=>some (.o (.c (.v (.int .i64 n))),s)
  | none=>none
 | .idx m x i=>match (i.ev s).val with
  | some (.int _ j)=>match x.ev s with
   | .o (.c (.s t n len))=>if t.m=m/\0<=j/\j<len then some (.o (.c (.p n (j.toNat*m))),s) else none
   | .o (.c (.r e l))=>if m=1/\0<=j/\j<l.length then some (.o (.c (.k (.int e (l.getD j.toNat 0)))),s) else none
   | .o (.c (.q m' cs))=>if m'=m/\0<=j/\j.toNat*m+m<=cs.length/\0<m then some (.o (.c (.kq (cs.drop (j.toNat*m)))),s) else none
   | _=>none
  | _=>none
 | .sl x lo hi=>match x.ev s with
  | .o (.c (.r e l))=>match bO s lo 0,bO s hi l.length with
   | some i,some j=>if 0<=i/\i<=j/\j<=l.length then some (.o (.c (.r e ((l.take j.toNat).drop i.toNat))),s) else none
   | _,_=>none
  | .o (.c (.nil e))=>match bO s lo 0,bO s hi 0 with
   | some i,some j=>if 0<=i/\i<=j/\j<=0 then some (.o (.c (.nil e)),s) else none
   | _,_=>none
  | .o (.c (.s t n len))=>match bO s lo 0,bO s hi len with
   | some i,some j=>if i=0/\0<=j/\j<=len then some (.o (.c (.s t n j.toNat)),s) else none
   | _,_=>none
  | _=>none
 | .Bl t x n=>match d,x.ev s,(n.ev s).val with
  | some d,.o (.c (.nil _)),some (.int .i64 m)=>match s.mem d with
   | none=>if 0<m/\m<=1000000000 then some (.o (.c (.s t d m.toNat)),{ s with mem:=aP s.mem d (some []) }) else none
   | some _=>none
  | _,_,_=>none
 | .cap x=>match x.ev s with
  | .o (.c (.nil _))=>some (.o (.c (.v (.int .i64 0))),s)
  | _=>none
 | .min x y=>match (x.ev s).val,(y.ev s).val with
  | some (.int k a),some (.int _ b)=>some (.o (.c (.v (.int k (if b<a then b else a)))),s)
  | _,_=>none
 | .str x=>match (x.ev s).row .u8 with
  | some l=>some (.o (.c (.v (.string (strOfNums l)))),s)
  | none=>none
 | .nL ne x y=>match (x.ev s).val,(y.ev s).val with
  | some (.string a),some (.string b)=>some (.o (.c (.v (.bool (if ne then !(a.toList==b.toList) else a.toList==b.toList)))),s)
  | _,_=>none
 | .rL t z n=>match d,(n.ev s).val with
  | some d,some (.int _ m)=>match s.mem d with
   | none=>if 0<=m/\m<=1000000000000 then some (.o (.c (.s t d m.toNat)),{ s with mem:=aP s.mem d (some (List.replicate m.toNat (.v z))) }) else none
   | some _=>none
  | _,_=>none
 | .sG t z n parts=>match eZ s z parts with
  | some cs=>some (.o (.c (fS t n cs)),s)
  | none=>none
 | .fX t z n parts=>match d,eZ s z parts with
  | some d,some cs=>match s.mem d with
   | none=>some (.o (.c (.s t d n)),{ s with mem:=aP s.mem d (some cs) })
   | some _=>none
  | _,_=>none
 | .app t x y=>match d,fY t s (x.ev s),fE t.m s (y.ev s) with
  | some d,some (ns,a,xs),some (ms,b,ys)=>
   if (ns = []->0<b)/\a+b<=1000000000000/\(s.mem d=none∨d∈ns++ms)/\ys.all (·.known)=true then
    some (.o (.c (.s t d (a+b))),⟨(s.drop (ns++ms)).tm,aP (s.drop (ns++ms)).mem d (some ((xs++ys).map (·.kill (ns++ms))))⟩)
   else none
  | _,_,_=>none
 | .lO f args=>match dC s args with
  | some as0=>match dC (s.hY (tX s as0)) args with
   | some aRR=>if aRR.all (·.free)=true then
    match sp f (aRR.map AP.wk) with
    | some r=>if r.free=true then some (r,s.hY (tX s as0)) else none
    | none=>none
    else none
   | none=>none
  | none=>none
 | .zE f args=>match d,dC s args with
  | some d,some aRR=>if aRR.all (·.free)=true then
   match s.mem d,sp f aRR with
   | none,some (.o (.c (.s t _ 0)))=>some (.o (.c (.s t d 0)),{ s with mem:=aP s.mem d (some []) })
   | _,_=>none
   else none
  | _,_=>none
 | .cB x=>if (x.ev s).Hw=true then some (x.ev s,s) else none
 | .gW ne x=>match x.ev s with
  | .o (.c a)=>match a.u7 with
   | some b=>some (.o (.c (.v (.bool (if ne then !b else b)))),s)
   | none=>none
  | _=>none
 | .vZ f caps=>match dC s caps with
  | some aRR=>match tK aRR with
   | some qs=>some (.o (.c (.fn f qs)),s)
   | none=>none
  | none=>none
 | .dyn x args=>match x.ev s,dC s args with
  | .o (.c (.fn f caps)),some aRR=>if aRR.all (·.free)=true then
   match uY caps with
   | some qs=>match sp f (aRR.map AP.wk++qs.map fun q=> .c q.ac) with
    | some r=>if r.free=true then some (r,s) else none
    | none=>none
   | none=>none
   else none
  | _,_=>none
 | .rG x=>match (x.ev s).val with
  | some (.string b)=>some (.o (.c (.r .u8 (b.data.toList.map fun c=>(c.toNat:Int)))),s)
  | _=>none
 | .nJ x i=>match (x.ev s).val,(i.ev s).val with
  | some (.string b),some (.int _ j)=>if 0<=j/\j<b.data.toList.length then some (.o (.c (.v (.int .u8 (b.data.toList.getD j.toNat 0).toNat))),s) else none
  | _,_=>none
 | .kZ x lo hi=>match (x.ev s).val with
  | some (.string b)=>match bO s lo 0,bO s hi b.data.toList.length with
   | some i,some j=>if 0<=i/\i<=j/\j<=b.data.toList.length then some (.o (.c (.v (.string ⟨((b.data.toList.take j.toNat).drop i.toNat).toArray⟩))),s) else none
   | _,_=>none
  | _=>none
 | .cat x y=>match (x.ev s).val,(y.ev s).val with
  | some (.string a),some (.string b)=>if a.data.toList.length+b.data.toList.length<=0x7fffffffffffffff then some (.o (.c (.v (.string ⟨(a.data.toList++b.data.toList).toArray⟩))),s) else none
  | _,_=>none
 | .mQ x=>match (x.ev s).val with
  | some (.string b)=>some (.o (.c (.v (.int .i64 b.data.toList.length))),s)
  | _=>none
 | .yA m x lo hi=>match x.ev s with
  | .o (.c (.q m' cs))=>match bO s lo 0,bO s hi (cs.length/m:Nat) with
   | some i,some j=>if m'=m/\0<m/\0<=i/\i<=j/\j<=(cs.length/m:Nat) then some (.o (.c (.q m ((cs.take (j.toNat*m)).drop (i.toNat*m)))),s) else none
   | _,_=>none
  | _=>none
 | .dN m n x i=>match x.ev s,(i.ev s).val with
  | .o (.c (.p k off)),some (.int _ j)=>if 0<=j/\j<n then some (.o (.c (.p k (off+j.toNat*m))),s) else none
  | _,_=>none
 | .Be n x i=>match (x.ev s).agg,(i.ev s).val with
  | some cs,some (.int _ j)=>if 0<=j/\j<n then match cs[j.toNat]? with
   | some a=>some (.o (.c a),s)
   | none=>none
   else none
  | _,_=>none
 | .Ax x=>match (x.ev s).val with
  | some (.int k a)=>some (.o (.c (.v (.int k (cX .xor k (if k.signed then -1 else k.max) a)))),s)
  | _=>none
 | .yU ne x=>match (x.ev s).val with
  | some .nilIface=>some (.o (.c (.v (.bool !ne))),s)
  | _=>none
 | .aM f args ρ => match dC s args with
  | some aRR=>match eL (swp ρ) aRR,bG s.mem (swp ρ) ρ with
   | some as',some cs=>match sp f (as'.map AP.wk++cs) with
    | some (.io ns outs l)=>if ns = ρ.map (·.1)/\outs.length=ns.length/\lY s.mem ρ outs=true then
     match eL ρ outs,eL ρ l with
     | some outs',some l'=>some (mP l',{ s with mem:=iL ρ outs' s.mem })
     | _,_=>none
     else none
    | _=>none
   | _,_=>none
  | none=>none
def St.put (s:St) (d:Option Nat) (v:AV):St:=
 match d with
 | some n=> { s with tm:=aP s.tm n v }
 | none=>s
def eG (sp:Spec) (o:bW) (s:St):Option St:=
 match o.guard with
 | none=>match aC sp o.dst o.op s with
  | some (v,s')=>some (s'.put o.dst v)
  | none=>none
 | some (g,want)=>match s.tm g with
  | .o (.c (.v (.bool b)))=>if b=want then
   match aC sp o.dst o.op s with
   | some (v,s')=>some (s'.put o.dst v)
   | none=>none
   else some (s.put o.dst (.t []))
  | .t _=>some (s.put o.dst (.t []))
  | _=>none
def gU (sp:Spec):List bW->St->Option St
 | [],s=>some s
 | o::os,s=>match eG sp o s with
  | some s'=>gU sp os s'
  | none=>none
inductive AX where
 | n
 | e (id:Nat)
 | r
def iter (f:St->Option (AX×St)):Nat->St->Option (AX×St)
 | 0,_=>none
 | k+1,s=>match f s with
  | some (.n,s')=>iter f k s'
  | x=>x
def bQ (sp:Spec) (k:Nat):SC->St->Option (AX×St)
 | .skip,s=>some (.n,s)
 | .region ops,s=>match gU sp ops s with
  | some s'=>some (.n,s')
  | none=>none
 | .seq a b,s=>match bQ sp k a s with
  | some (.n,s')=>bQ sp k b s'
  | x=>x
 | .cond c a b,s=>match (c.ev s).val with
  | some (.bool t)=>if t then bQ sp k a s else bQ sp k b s
  | _=>none
 | .block id a,s=>match bQ sp k a s with
  | some (.e i,s')=>if i=id then some (.n,s') else some (.e i,s')
  | x=>x
 | .loop a,s=>iter (bQ sp k a) k s
 | .forget ns a,s=>bQ sp k a (s.drop ns)
 | .scope a,s=>bQ sp k a s
 | .exit id,s=>some (.e id,s)
 | .ret,s=>some (.r,s)
 | .bad,_=>none
inductive SR where
 | t (n:Nat)
 | c (n:Nat) (agg:Bool) (size:Nat)
structure SF where
 ntmps:Nat
 res:List SR
 code:SC
def mO (s:St):List SR->Option (List AP)
 | []=>some []
 | .t n::rs=>match (s.tm n).part,mO s rs with
  | some a,some aRR=>some (a::aRR)
  | _,_=>none
 | .c n agg size::rs=>match (s.tm n).ptr,mO s rs with
  | some (m,0),some aRR=>match s.mem m with
   | some cs=>if cs.length=size then
    if agg then some (.g cs::aRR)
    else match cs with
     | [a]=>some (.c a::aRR)
     | _=>none
    else none
   | none=>none
  | _,_=>none
def gY (args:List AP):St:= { tm:=fun t=>match args[t]? with | some a=> .o a | none=> .o (.c .u),mem:=fun _=>none }
def Ff (sp:Spec) (k:Nat) (f:SF) (args:List AP):Option AV:=
 match bQ sp k f.code (gY args) with
 | some (.e _,_)=>none
 | some (_,s)=>match mO s f.res with
  | some l0=>match mO (s.hY (uW l0)) f.res with
   | some l=>if l.all (·.free)=true then some (mP (l.map AP.wk)) else none
   | none=>none
  | none=>none
 | none=>none
end Go.VC
namespace Go.VC
open Go.RowKit
def Ow:Value->Value->Bool
 | .int k n,.int k' n'=>decide (k=k')&&decide (n=n')
 | .bool b,.bool b'=>b==b'
 | .string s,.string s'=>decide (s.data.toList=s'.data.toList)
 | .pointer none,.pointer none=>true
 | .nilIface,.nilIface=>true
 | _,_=>false
def Tw:Value->AC->Bool
 | v,.v x=>Ow v x
 | .slice none 0 0,.nil _=>true
 | _,_=>false
def jE:List Value->List AC->Bool
 | [],[]=>true
 | v::vs,a::aRR=>Tw v a&&jE vs aRR
 | _,_=>false
def aJ:Operand->SA->Bool
 | .tmp n,.t m=>n==m
 | .const (.agg cs),.g xs=>jE cs.toList xs
 | .const v,.k x=>Ow v x
 | .const (.slice none 0 0),.nil _=>true
 | .func g,.f n=>g==n
 | _,_=>false
def eR:List Operand->List SA->Bool
 | [],[]=>true
 | x::xs,y::ys=>aJ x y&&eR xs ys
 | _,_=>false
def jO:Option Operand->Option SA->Bool
 | none,none=>true
 | some x,some y=>aJ x y
 | _,_=>false
def dH (P:Program) (t:TypeId):Option Nat:=(P.info? t).map (·.size)
def iV (P:Program) (t:TypeId):Option Bool:=(P.underlying t).map (·.isRow)
def rM (P:Program) (t:TypeId):Option IntKind:=match P.underlying t with | some (.int k)=>some k | _=>none
def Kc (P:Program) (t:TypeId):Bool:=match P.underlying t with | some .bool=>true | _=>false
def Gz (P:Program) (t:TypeId) (i:Nat):Option Field:=match P.underlying t with | some (.struct fs)=>fs[i]? | _=>none
def Bv (P:Program) (t:TypeId):Option (Array Field):=match P.underlying t with | some (.struct fs)=>some fs | _=>none
def kL (P:Program) (t:TypeId):Option TypeId:=match P.underlying t with | some (.slice e)=>some e | _=>none
def Kx (P:Program) (fs:Array Field):List (Nat×Operand)->List (Nat×Nat×SA)->Bool
 | [],[]=>true
 | (i,x)::xs,(off,size,y)::ys=>(match fs[i]? with | some f=>f.offset==off&&dH P f.type==some size | none=>false)&&aJ x y&&Kx P fs xs ys
 | _,_=>false
def Jc (rec_:TypeId->Option (List IntKind)):Nat->List Field->Option (List IntKind)
 | _,[]=>some []
 | off,f::fs=>if f.name ≠ "_" /\ f.offset=off then
  match rec_ f.type with
  | some ks=>match Jc rec_ (off+ks.length) fs with
   | some l=>some (ks++l)
   | none=>none
  | none=>none
  else none
def uS (P:Program):Nat->TypeId->Option (List IntKind)
 | 0,_=>none
 | d+1,t=>
  match P.underlying t with
  | some (.int k)=>if dH P t=some 1 then some [k] else none
  | some (.struct fs)=>if P.stoodInHeld t=false then
   match Jc (uS P d) 0 fs.toList with
   | some ks=>if dH P t=some ks.length then some ks else none
   | none=>none
   else none
  | _=>none
def pI (P:Program) (ty:TypeId) (t:RT):Bool:=
 match kL P ty with
 | some e=>e==t.e&&dH P e==some t.m&&decide (0<t.m)&&(match P.info? e with
  | some i=>decide (i.bytes<=128)&&(match i.zero with | some z=>z.cells.size==t.m | none=>false)
  | none=>false)
 | none=>false
def Aw (m:Nat):List (Nat×Operand)->List (Nat×Nat×SA)->Bool
 | [],[]=>true
 | (i,x)::xs,(off,size,y)::ys=>off==i*m&&size==m&&aJ x y&&Aw m xs ys
 | _,_=>false
def xV (P:Program) (e:TypeId) (n:Nat):List Value:=match (P.info? e).bind (·.zero) with
 | some z=>(List.range n).map (fun i=>z.cells[i%z.cells.size]!)
 | none=> []
def nH (P:Program) (t:TypeId):Bool:=match P.underlying t with | some .string=>true | _=>false
def Rg (P:Program) (t:TypeId):Bool:=match Bv P t with | some fs=>fs.toList.all fun f=>(dH P f.type).isSome | none=>false
def zD (P:Program) (t:TypeId):Option (Nat×TypeId):=match P.underlying t with | some (.array n e)=>some (n,e)| _=>none
def Se (P:Program) (t:TypeId) (ps:List (Nat×Operand)) (parts:List (Nat×Nat×SA)):Bool:=match zD P t with
 | some (_,e)=>(match dH P e with | some m=>Aw m ps parts | none=>false)
 | none=>false
def Uv (P:Program) (t:TypeId) (i:Operand) (off:Nat):Bool:=match i,zD P t with
 | .const (.int _ j),some (n,e)=>(match dH P e with | some m=>decide (0<=j)&&decide (j<n)&&off==j.toNat*m | none=>false)
 | _,_=>false
def qO (P:Program):Op->bA->Bool
 | .move x,.mv y=>aJ x y
 | .assign x,.mv y=>aJ x y
 | .pick c a b,.pick c' a' b'=>aJ c c'&&aJ a a'&&aJ b b'
 | .alloc t,.alloc z=>match (P.info? t).bind (·.zero) with | some v=>jE v.cells.toList z | none=>false
 | .box _ x,.box y=>aJ x y
 | .build t ps,.build z parts=>(match (P.info? t).bind (·.zero) with | some v=>jE v.cells.toList z | none=>false)&&(Rg P t&&(match Bv P t with | some fs=>Kx P fs ps.toList parts | none=>false)||Se P t ps.toList parts)
 | .indexAddr t x i,.aI off q=>Uv P t i off&&aJ x q
 | .load t p,.load agg size q _=>iV P t==some agg&&dH P t==some size&&(agg||size==1)&&aJ p q
 | .store t p x,.store size q y _=>dH P t==some size&&aJ p q&&aJ x y
 | .fieldAddr t x i,.aI off q=>(match Gz P t i with | some f=>f.offset==off&&(match dH P f.type with | some n=>n != 0 | none=>false)| none=>false)&&aJ x q
 | .field t x i,.part agg off size q=>(match Gz P t i with | some f=>f.offset==off&&iV P f.type==some agg&&dH P f.type==some size&&(agg||size==1)| none=>false)&&aJ x q
 | .binOp op _ x y _,.bin op' x' y'=>decide (op=op')&&aJ x x'&&aJ y y'
 | .binOp op t x y _,.qD ne x' y'=>Kc P t&&decide (op=if ne then .neq else .eql)&&aJ x x'&&aJ y y'
 | .binOp op t x y _,.eqs ne ks x' y'=>(Bv P t).isSome&&uS P 5 t==some ks && !P.eqGuardType P.depth t&&decide (op=if ne then .neq else .eql)&&aJ x x'&&aJ y y'
 | .unOp .not _ x,.not y=>aJ x y
 | .unOp .neg _ x,.neg y=>aJ x y
 | .convert s d x,.cH k y=>(P.underlying s).isSome&&rM P d==some k&&aJ x y
 | .extract x i,.ext y j=>i==j&&aJ x y
 | .call c,.call f args=>(match c.callee with | .value (.func g)=>g==f | _=>false)&&eR c.args.toList args
 | .call c,.len y=>(match c.callee with | .builtin .len=>true | _=>false)&&(match c.args.toList,c.argTypes[0]? with | [x],some t=>(kL P t).isSome&&aJ x y | _,_=>false)
 | .indexAddr t x i,.idx m y j=>(match kL P t with | some el=>dH P el==some m | none=>false)&&aJ x y&&aJ i j
 | .slice t x lo hi none,.sl y lo' hi'=>(match kL P t with | some el=>dH P el==some 1 | none=>false)&&aJ x y&&jO lo lo'&&jO hi hi'
 | .call c,.min y y'=>(match c.callee with | .builtin .min=>true | _=>false)&&eR c.args.toList [y,y']
 | .convert s d x,.str y=>(match kL P s with | some el=>rM P el==some .u8 | none=>false)&&nH P d&&aJ x y
 | .binOp op t x y _,.nL ne x' y'=>nH P t&&decide (op=if ne then .neq else .eql)&&aJ x x'&&aJ y y'
 | .makeSlice ty l c,.rL t z n=>pI P ty t&&t.m==1&&jE (xV P t.e 1) [.v z]&&aJ l n&&aJ c n
 | .buildSlice ty n ps,.fX t z n' parts=>pI P ty t&&n==n'&&decide (n*t.m<=16777216)&&jE (xV P t.e (n*t.m)) z&&Aw t.m ps.toList parts
 | .buildSlice ty n ps,.sG t z n' parts=>pI P ty t&&n==n'&&decide (n*t.m<=16777216)&&jE (xV P t.e (n*t.m)) z&&Aw t.m ps.toList parts
 | .call c,.app t x y=>(match c.callee with | .builtin .append=>true | _=>false)&&(match c.argTypes.toList with | [t1,t2]=>t1==t2&&pI P t1 t | _=>false)&&eR c.args.toList [x,y]
 | .call c,.lO f args=>(match c.callee with | .value (.func g)=>g==f | _=>false)&&eR c.args.toList args
 | .call c,.cap y=>(match c.callee with | .builtin .cap=>true | _=>false)&&(match c.args.toList,c.argTypes[0]? with | [x],some t=>(kL P t).isSome&&aJ x y | _,_=>false)
 | .call c,.Bl t x n=>(match c.callee with | .builtin .append=>true | _=>false)&&(match c.argTypes.toList with | [t1,t2]=>pI P t1 t&&rM P t2==some .i64 | _=>false)&&eR c.args.toList [x,n]
 | .call c,.zE f args=>(match c.callee with | .value (.func g)=>g==f | _=>false)&&eR c.args.toList args
 | .nilCheck x,.cB y=>aJ x y
 | .binOp op t x y _,.gW ne x'=>(match P.underlying t with | some (.pointer _)=>true | _=>false)&&decide (op=if ne then .neq else .eql)&&aJ x x'&&(match y with | .const (.pointer none)=>true | _=>false)
 | .makeFunc fn first caps,.vZ f aRR=>(match fn with | .func g=>g==f | _=>false)&&first.toList.isEmpty&&eR caps.toList aRR
 | .call c,.dyn x args=>(match c.callee with | .value y=>aJ y x | _=>false)&&eR c.args.toList args
 | .convert s d x,.rG y=>nH P s&&(match kL P d with | some el=>rM P el==some .u8 | none=>false)&&aJ x y
 | .index t x i,.nJ y j=>nH P t&&aJ x y&&aJ i j
 | .slice t x lo hi none,.kZ y lo' hi'=>nH P t&&aJ x y&&jO lo lo'&&jO hi hi'
 | .binOp op t x y _,.cat x' y'=>nH P t&&decide (op = .add)&&aJ x x'&&aJ y y'
 | .call c,.mQ y=>(match c.callee with | .builtin .len=>true | _=>false)&&(match c.args.toList,c.argTypes[0]? with | [x],some t=>nH P t&&aJ x y | _,_=>false)
 | .slice t x lo hi none,.yA m y lo' hi'=>(match kL P t with | some el=>dH P el==some m | none=>false)&&aJ x y&&jO lo lo'&&jO hi hi'
 | .indexAddr t x i,.dN m n y j=>(match zD P t with | some (n',el)=>n'==n&&dH P el==some m | none=>false)&&aJ x y&&aJ i j
 | .index t x i,.Be n y j=>(match zD P t with | some (n',el)=>n'==n&&dH P el==some 1&&iV P el==some false | none=>false)&&aJ x y&&aJ i j
 | .unOp .xor _ x,.Ax y=>aJ x y
 | .binOp op t x y _,.yU ne x'=>(match P.underlying t with | some (.interface _)=>true | _=>false)&&decide (op=if ne then .neq else .eql)&&aJ x x'&&(match y with | .const .nilIface=>true | _=>false)
 | .call c,.aM f args ρ => (match c.callee with | .value (.func g)=>g==f | _=>false)&&eR c.args.toList args&&nodup (ρ.map (·.1))&&nodup (ρ.map (·.2))
 | _,_=>false
structure Cx where
 S:Nat->Prop
 st:Nat->Option Nat
 io : ∀ n,n<1000->st n=none
 fin : ∃ K,∀ n,K<=n->st n=none
def Cx.X (S0:Cx) (b:Nat):Prop:= ∃ n,S0.st n=some b
structure fF (X:Nat->Prop) (w w':World):Prop where
 os:w'.os=w.os
 tape:w'.tape=w.tape
 output:w'.output=w.output
 size:w.heap.size<=w'.heap.size
 block : ∀ k,k<w.heap.size -> ¬ X k->w'.heap[k]? = w.heap[k]?
 mJ : ∀ k,k<w.heap.size->w'.shape? k=w.shape? k
theorem fF.refl (X:Nat->Prop) (w:World):fF X w w:=⟨rfl,rfl,rfl,Nat.le_refl _,fun _ _ _=>rfl,fun _ _=>rfl⟩
theorem fF.trans {X:Nat->Prop} {a b c:World} (h:fF X a b) (k:fF X b c):fF X a c:=
 ⟨k.os.trans h.os,k.tape.trans h.tape,k.output.trans h.output,Nat.le_trans h.size k.size,fun i hi hx=>(k.block i (Nat.lt_of_lt_of_le hi h.size) hx).trans (h.block i hi hx),fun i hi=>(k.mJ i (Nat.lt_of_lt_of_le hi h.size)).trans (h.mJ i hi)⟩
theorem fF.Tp {X:Nat->Prop} {w w':World} (h:Below w.heap.size w w'):fF X w w':=
 ⟨h.os,h.tape,h.output,h.size,fun k hk _=>h.block k hk,fun k hk=>by unfold World.shape?;rw [h.block k hk]⟩
theorem fF.below {w w':World} (h:fF (fun _=>False) w w'):Below w.heap.size w w':=⟨h.os,h.tape,h.output,h.size,fun k hk=>h.block k hk (fun h=>h)⟩
theorem fF.step {X:Nat->Prop} {w0 w w':World} (h:fF X w0 w) (hb:Below w.heap.size w w'):fF X w0 w':=h.trans (.Tp hb)
theorem fF.one {X:Nat->Prop} {w0 w w':World} {b:Nat} (h:fF X w0 w) (hb:w0.heap.size<=b∨X b) (ho:w'.os=w.os) (ht:w'.tape=w.tape) (hu:w'.output=w.output) (hs:w.heap.size<=w'.heap.size)
 (hk : ∀ k,k<w.heap.size->k≠b->w'.heap[k]? = w.heap[k]?) (hp : ∀ k,k<w.heap.size->w'.shape? k=w.shape? k):fF X w0 w':=
 ⟨ho.trans h.os,ht.trans h.tape,hu.trans h.output,Nat.le_trans h.size hs,fun k hk' hx=>(hk k (Nat.lt_of_lt_of_le hk' h.size) (fun e=>by
  subst e
  rcases hb with hb | hb
  ·omega
  ·exact hx hb)).trans (h.block k hk' hx),fun k hk'=>(hp k (Nat.lt_of_lt_of_le hk' h.size)).trans (h.mJ k hk')⟩
def cx (S:Nat->Prop):Cx:=⟨S,fun _=>none,fun _ _=>rfl,0,fun _ _=>rfl⟩
structure Start (S0:Cx) (w0:World):Prop where
 lt : ∀ b,S0.S b->b<w0.heap.size
 ge : ∀ b,S0.S b->NG<=b
 x : ∀ b,S0.X b->NG<=b
 g:aZ w0
theorem Start.Qf {S0:Cx} {w0 w:World} (h:Start S0 w0) (hf:fF S0.X w0 w):aZ w:=
 aZ.jA h.g hf.size (fun k hk=>hf.block k (Nat.lt_of_lt_of_le hk (aZ.le h.g)) (fun hx=>absurd (h.x k hx) (Nat.not_le.2 hk)))
def own (S0:Cx) (μ : Nat->Nat) (mem:Nat->Option (List AC)):aY:=
 { S:=fun b=>S0.S b ∨ ∃ n,mem n≠none /\ μ n=b,μ := μ,D:=fun n=>mem n≠none }
structure Rel (S0:Cx) (w0:World) (N:Nat) (μ : Nat->Nat) (s:St) (a:Act) (w:World):Prop where
 tmp : ∀ t,(s.tm t).rep (own S0 μ s.mem) w (a.tmps.getD t undef)
 mem : ∀ n cs,s.mem n=some cs->(w0.heap.size <= μ n∨S0.st n≠none) /\ ∃ (ys zs:List Value) (T:TypeId),w.heap[μ n]? = some (.cells (ys++zs).toArray T (0,0))/\bE (own S0 μ s.mem) w cs ys
 inj : ∀ n m,s.mem n≠none->s.mem m≠none -> μ n = μ m->n=m
 below:fF S0.X w0 w
 kS : ∀ n b,S0.st n=some b->s.mem n≠none -> μ n=b
 defers:a.defers = []
 size:a.tmps.size=N
 small:N<=1000
section
variable {P:Program} {S0:Cx} {w0:World} {N:Nat} {μ : Nat->Nat} {s:St} {a:Act} {w:World}
theorem Pz {v x:Value} (h:Ow v x=true):v=x/\v.oneCell'=true:=by
 unfold Ow at h
 split at h
 ·simp at h;obtain ⟨rfl,rfl⟩:=h;exact ⟨rfl,rfl⟩
 ·simp at h;subst h;exact ⟨rfl,rfl⟩
 ·rename_i a b
  have:a.data=b.data:=by
   have:=of_decide_eq_true h
   exact Array.ext' this
  cases a;cases b;cases this
  exact ⟨rfl,rfl⟩
 ·exact ⟨rfl,rfl⟩
 ·exact ⟨rfl,rfl⟩
 ·cases h
theorem aJb {L:aY} {v:Value} {x:AC} (h:Tw v x=true):x.rep L w v:=by
 unfold Tw at h
 split at h
 ·obtain ⟨rfl,h1⟩:=Pz h;exact ⟨rfl,h1⟩
 ·rfl
 ·cases h
theorem Hs {L:aY} : ∀ {vs:List Value} {xs:List AC},jE vs xs=true->bE L w xs vs
 | [],[],_=>trivial
 | [],_::_,h=>by cases h
 | _::_,[],h=>by cases h
 | v::vs,x::xs,h=>by
  simp only [jE,Bool.and_eq_true] at h
  exact ⟨aJb h.1,Hs h.2⟩
theorem Rel.ev (R:Rel S0 w0 N μ s a w) {x:Operand} {y:SA} (h:aJ x y=true):(y.ev s).rep (own S0 μ s.mem) w (a.eval x):=by
 unfold aJ at h
 split at h
 ·rename_i n m
  have:n=m:=by simpa using h
  subst this
  exact R.tmp n
 ·rename_i cs xs
  exact ⟨cs.toList,by simp [Act.eval],Hs h⟩
 ·obtain ⟨rfl,h1⟩:=Pz h
  exact ⟨rfl,h1⟩
 ·rfl
 ·rename_i g n
  have:g=n:=by simpa using h
  subst this
  exact ⟨[],rfl,trivial⟩
 ·cases h
theorem Rel.val (R:Rel S0 w0 N μ s a w) {x:Operand} {y:SA} (h:aJ x y=true) {v:Value} (hv:(y.ev s).val=some v):a.eval x=v/\v.oneCell'=true:=by
 have:=R.ev h
 unfold AV.val at hv
 split at hv
 ·rename_i z hz
  cases hv
  rw [hz] at this
  exact this
 ·cases hv
theorem Rel.ptr (R:Rel S0 w0 N μ s a w) {x:Operand} {y:SA} (h:aJ x y=true) {n off:Nat} (hv:(y.ev s).ptr=some (n,off)):a.eval x = .pointer (some ⟨μ n,off,none⟩)/\s.mem n≠none:=by
 have:=R.ev h
 unfold AV.ptr at hv
 split at hv
 ·rename_i z1 z2 hz
  cases hv
  rw [hz] at this
  exact ⟨this.2,this.1⟩
 ·cases hv
theorem Rel.part (R:Rel S0 w0 N μ s a w) {x:Operand} {y:SA} (h:aJ x y=true) {v:AP} (hv:(y.ev s).part=some v):v.rep (own S0 μ s.mem) w (a.eval x):=by
 have:=R.ev h
 unfold AV.part at hv
 split at hv
 ·rename_i z hz
  cases hv
  rw [hz] at this
  exact this
 ·cases hv
theorem Rel.agg (R:Rel S0 w0 N μ s a w) {x:Operand} {y:SA} (h:aJ x y=true) {cs:List AC} (hv:(y.ev s).agg=some cs) : ∃ ys:List Value,a.eval x = .agg ys.toArray/\bE (own S0 μ s.mem) w cs ys:=by
 have:=R.ev h
 unfold AV.agg at hv
 split at hv
 ·rename_i z hz
  cases hv
  rw [hz] at this
  exact this
 ·cases hv
theorem Rel.row (R:Rel S0 w0 N μ s a w) {x:Operand} {y:SA} (h:aJ x y=true) {e:IntKind} {l:List Int} (hv:(y.ev s).row e=some l):Reads (own S0 μ s.mem).S w e (a.eval x) l:=by
 have:=R.ev h
 unfold AV.row at hv
 split at hv
 ·rename_i e' l' hz
  rw [hz] at this
  split at hv
  ·rename_i he
   cases hv
   subst he
   exact this
  ·cases hv
 ·rename_i hz
  cases hv
  rw [hz] at this
  exact .inl ⟨this,rfl⟩
 ·cases hv
theorem AP.Nl {L:aY} {x:AP} {y:Value} (h:x.rep L w y) (hk:x.ok=true):bE L w x.cells y.cells.toList:=by
 cases x with
 | c a=>
  have hk':a.known=true:=by cases a<;>first | rfl | cases hk
  have h1:=AC.Xs hk' h
  have:y.cells = #[y]:=by cases y<;>first | rfl | cases h1
  rw [this]
  exact ⟨h,trivial⟩
 | g cs=>
  obtain ⟨ys,rfl,h⟩:=h
  simpa [AP.cells,Value.cells] using h
end
end Go.VC
namespace Go.VC
open Go.RowKit
def Qd (P:Program) (f:Nat) (aRR:List AP) (r:AV):Prop:=
 r.uB=false /\ ∀ (S:Nat->Prop) (w:World) (vs:List Value),(∀ b,S b->b<w.heap.size/\NG<=b)->aZ w->cP ⟨S,fun _=>0,fun _=>False⟩ w aRR vs ->
  Calls P f vs.toArray w fun e w'=> ∃ v,e = .returned v/\r.rep ⟨S,fun _=>0,fun _=>False⟩ w' v/\Below w.heap.size w w'
def Inline (P:Program) (f:Nat) (aRR:List AP) (r:AV):Prop:=
 ∀ (w:World) (vs:List Value),cP ⟨fun _=>False,fun _=>0,fun _=>False⟩ w aRR vs ->
  ∃ v,(callFunc f vs.toArray).run P w = .ok (.value v) w /\ ∀ L w',r.rep L w' v
def Q0 (P:Program) (f:Nat) (aRR:List AP) (r:AV):Prop:=
 ∃ t d,r = .o (.c (.s t d 0)) /\ ∀ (S:Nat->Prop) (w:World) (vs:List Value),(∀ b,S b->b<w.heap.size/\NG<=b)->aZ w->cP ⟨S,fun _=>0,fun _=>False⟩ w aRR vs ->
  Calls P f vs.toArray w fun e w'=> ∃ b cap cur,e = .returned (.slice (some ⟨b,0,none⟩) 0 cap)/\w.heap.size<=b/\w'.heap[b]? = some (.cells cur t.e (0,0))/\cur.size=cap*t.m/\cap<=maxLen/\Below w.heap.size w w'
def wM (P:Program) (f:Nat) (args bG:List AP) (ns:List Nat) (outs l:List AP):Prop:=
 ∀ (S:Nat->Prop) (w:World) (vs:List Value) (μ : Nat->Nat),(∀ b,S b->b<w.heap.size/\NG<=b)->aZ w ->
  (∀ n cs,lk ns bG n=some cs->NG <= μ n /\ ∃ (ys zs:List Value) (T:TypeId),w.heap[μ n]? = some (.cells (ys++zs).toArray T (0,0))/\bE (own (cx S) μ (lk ns bG)) w cs ys) ->
  (∀ n m,lk ns bG n≠none->lk ns bG m≠none -> μ n = μ m->n=m) ->
  cP (own (cx S) μ (lk ns bG)) w args vs ->
  Calls P f vs.toArray w fun e w'=> ∃ v μ',e = .returned v/\(∀ n,lk ns bG n≠none->lk ns outs n≠none /\ μ' n = μ n)/\(∀ n,lk ns outs n≠none->lk ns bG n=none->w.heap.size <= μ' n) /\
   (∀ n cs,lk ns outs n=some cs -> ∃ (ys zs:List Value) (T:TypeId),w'.heap[μ' n]? = some (.cells (ys++zs).toArray T (0,0))/\bE (own (cx S) μ' (lk ns outs)) w' cs ys) /\
   (∀ n m,lk ns outs n≠none->lk ns outs m≠none -> μ' n = μ' m->n=m) /\
   (mP l).rep (own (cx S) μ' (lk ns outs)) w' v/\fF (fun b=> ∃ n,lk ns bG n≠none /\ μ n=b) w w'
def Enters (P:Program) (f:Nat):Prop:= ∀ args w,(callFunc f args).run P w = .ok (.enter f args) w
def fA (P:Program) (sp:Spec):Prop:=
 ∀ f aRR r,sp f aRR=some r->(Enters P f/\Qd P f aRR r)∨(r.uB=false/\Inline P f aRR r)∨(Enters P f/\Q0 P f aRR r)∨(Enters P f /\ ∃ args bG ns outs l,aRR=args++bG/\bG.length=ns.length/\r = .io ns outs l/\wM P f args bG ns outs l)
section
variable {P:Program} {S0:Cx} {w0:World} {N:Nat} {μ : Nat->Nat} {s:St} {a:Act} {w:World}
theorem lZ {α : Type} (f:Nat -> α) (n:Nat) (x : α):aP f n x n=x:=by simp [aP]
theorem eK {α : Type} (f:Nat -> α) {n m:Nat} (x : α) (h:m≠n):aP f n x m=f m:=by simp [aP,h]
theorem Rel.move {μ':Nat->Nat} {mem':Nat->Option (List AC)} {w':World} (R:Rel S0 w0 N μ s a w)
 (hx:Ext (own S0 μ s.mem) w (own S0 μ' mem') w')
 (hm : ∀ n cs,mem' n=some cs->(w0.heap.size <= μ' n∨S0.st n≠none) /\ ∃ (ys zs:List Value) (T:TypeId),w'.heap[μ' n]? = some (.cells (ys++zs).toArray T (0,0))/\bE (own S0 μ' mem') w' cs ys)
 (hi : ∀ n m,mem' n≠none->mem' m≠none -> μ' n = μ' m->n=m) (hb:fF S0.X w0 w') (hst : ∀ n b,S0.st n=some b->mem' n≠none -> μ' n=b) :
 Rel S0 w0 N μ' { s with mem:=mem' } a w':=
 { tmp:=fun t=>AV.dU hx (R.tmp t),mem:=hm,inj:=hi,below:=hb,kS:=hst,defers:=R.defers,size:=R.size,small:=R.small }
theorem aM2 {L:aY} {w':World} (hD : ∀ n,L.D n->L.μ n<w.heap.size) (hb:Below w.heap.size w w'):Ext L w L w':=
 ⟨fun n h=>⟨h,rfl⟩,fun b h hlt=>⟨hb.block b hlt,h⟩,hb.size,fun n h=>by unfold World.shape?;rw [hb.block _ (hD n h)]⟩
theorem Rel.lt (R:Rel S0 w0 N μ s a w) : ∀ n,s.mem n≠none -> μ n<w.heap.size:=fun n hn=>by
 cases h:s.mem n with
 | none=>exact absurd h hn
 | some c=>obtain ⟨_,ys,zs,T,h2,_⟩:=R.mem n c h;exact (Array.getElem?_eq_some_iff.1 h2).1
theorem Rel.Ve (R:Rel S0 w0 N μ s a w) : ∀ n,s.mem n≠none->w0.heap.size <= μ n∨S0.X (μ n):=fun n hn=>by
 cases h:s.mem n with
 | none=>exact absurd h hn
 | some c=>
  rcases (R.mem n c h).1 with h1 | h1
  ·exact .inl h1
  ·cases hs:S0.st n with
   | none=>exact absurd hs h1
   | some b=>exact .inr ⟨n,by rw [hs,R.kS n b hs hn]⟩
theorem Rel.ge (R:Rel S0 w0 N μ s a w) : ∀ n,n<1000->s.mem n≠none->w0.heap.size <= μ n:=fun n hl hn=>by
 cases h:s.mem n with
 | none=>exact absurd h hn
 | some c=>
  rcases (R.mem n c h).1 with h1 | h1
  ·exact h1
  ·exact absurd (S0.io n hl) h1
theorem Rel.bd (hS0:Start S0 w0) (R:Rel S0 w0 N μ s a w) : ∀ b,(own S0 μ s.mem).S b->b<w.heap.size/\NG<=b:=by
 rintro b (h | ⟨n,hn,rfl⟩)
 ·exact ⟨Nat.lt_of_lt_of_le (hS0.lt b h) R.below.size,hS0.ge b h⟩
 ·refine ⟨R.lt n hn,?_⟩
  rcases R.Ve n hn with h | h
  ·exact Nat.le_trans (aZ.le hS0.g) h
  ·exact hS0.x _ h
theorem Rel.Tz {w':World} (R:Rel S0 w0 N μ s a w) (hb:Below w.heap.size w w'):Rel S0 w0 N μ s a w':=by
 have hx:Ext (own S0 μ s.mem) w (own S0 μ s.mem) w':=aM2 R.lt hb
 refine R.move (mem':=s.mem) (μ':= μ) hx (fun n cs h=> ?_) R.inj (R.below.step hb) R.kS
 ·obtain ⟨h1,ys,zs,T,h2,h3⟩:=R.mem n cs h
  have hlt : μ n<w.heap.size:=(Array.getElem?_eq_some_iff.1 h2).1
  exact ⟨h1,ys,zs,T,(hb.block _ hlt).trans h2,nB hx h3⟩
theorem Rel.drew (R:Rel S0 w0 N μ s a w):Rel S0 w0 N μ s a { w with drawn:=w.drawn+1 } :=
 R.Tz ⟨rfl,rfl,rfl,Nat.le_refl _,fun _ _=>rfl⟩
structure yI (ns:List Nat) (L:aY) (w:World) (L':aY) (w':World):Prop where
 D : ∀ n,n ∉ ns->L.D n->L'.D n/\L'.μ n=L.μ n
 gF : ∀ b,¬ L.S b->b<w.heap.size->w'.heap[b]? = w.heap[b]? /\ ¬ L'.S b
 size:w.heap.size<=w'.heap.size
 mJ : ∀ n,n ∉ ns->L.D n->w'.shape? (L.μ n)=w.shape? (L.μ n)
theorem yI.e {ns:List Nat} {L L':aY} {w w':World} (h:yI ns L w L' w'):Ext ⟨L.S,L.μ,fun _=>False⟩ w ⟨L'.S,L'.μ,fun _=>False⟩ w':=
 ⟨fun n h=>h.elim,h.gF,h.size,fun n h=>h.elim⟩
section
variable {ns:List Nat} {L L':aY} {w':World}
theorem AC.Aa (h:yI ns L w L' w') {c:AC} {y:Value} (hr:c.rep L w y):(c.kill ns).rep L' w' y:=by
 cases c with
 | p n off=>
  simp only [AC.kill]
  split
  ·trivial
  ·rename_i hn
   obtain ⟨h1,h2⟩:=hr
   exact ⟨(h.D n hn h1).1,by rw [(h.D n hn h1).2];exact h2⟩
 | s t n len=>
  simp only [AC.kill]
  split
  ·trivial
  ·rename_i hn
   obtain ⟨h1,cap,h2,h3,h4,h5⟩:=hr
   obtain ⟨h6,h7⟩:=h.D n hn h1
   exact ⟨h6,cap,by rw [h7];exact h2,by rw [h7,h.mJ n hn h1];exact h3,h4,h5⟩
 | v x=>exact AC.dU (a:= .v x) h.e hr
 | k x=>exact AC.dU (a:= .k x) h.e hr
 | r e l=>exact AC.dU (a:= .r e l) h.e hr
 | q m cs=>exact AC.dU (a:= .q m cs) h.e hr
 | kq cs=>exact AC.dU (a:= .kq cs) h.e hr
 | fn f caps=>
  simp only [AC.kill]
  split
  ·rename_i hk
   obtain ⟨ys,h1,h2⟩:=hr
   refine ⟨ys,h1,?_⟩
   have key : ∀ {aRR:List FC} {ys:List Value},aRR.all (·.jA ns)=true->lP L w aRR ys->lP L' w' aRR ys:=by
    intro aRR
    induction aRR with
    | nil=>intro ys _ h2;cases ys with | nil=>trivial | cons _ _=>exact h2.elim
    | cons c aRR ih=>
     intro ys hk h2
     simp only [List.all_cons,Bool.and_eq_true] at hk
     cases ys with
     | nil=>exact h2.elim
     | cons y ys=>
      refine ⟨?_,ih hk.2 h2.2⟩
      cases c with
      | q c=>exact QC.dU (c:=c) h.e h2.1
      | p n off=>
       have hn:n ∉ ns:=by simpa [FC.jA] using hk.1
       obtain ⟨g1,g2⟩:=h2.1
       exact ⟨(h.D n hn g1).1,by rw [(h.D n hn g1).2];exact g2⟩
   exact key hk h2
  ·trivial
 | ik k=>exact AC.dU (a:= .ik k) h.e hr
 | nil e=>exact hr
 | u=>trivial
theorem Kp (h:yI ns L w L' w') : ∀ {aRR:List AC} {ys:List Value},bE L w aRR ys->bE L' w' (aRR.map (·.kill ns)) ys
 | [],[],_=>trivial
 | [],_::_,hr=>hr.elim
 | _::_,[],hr=>hr.elim
 | _::_,_::_,hr=>⟨AC.Aa h hr.1,Kp h hr.2⟩
theorem AP.Aa (h:yI ns L w L' w') {c:AP} {y:Value} (hr:c.rep L w y):(c.kill ns).rep L' w' y:=by
 cases c with
 | c a=>exact AC.Aa (c:=a) h hr
 | g cs=>obtain ⟨ys,h1,h2⟩:=hr;exact ⟨ys,h1,Kp h h2⟩
theorem O8 (h:yI ns L w L' w') : ∀ {aRR:List AP} {ys:List Value},cP L w aRR ys->cP L' w' (aRR.map (·.kill ns)) ys
 | [],[],_=>trivial
 | [],_::_,hr=>hr.elim
 | _::_,[],hr=>hr.elim
 | _::_,_::_,hr=>⟨AP.Aa h hr.1,O8 h hr.2⟩
theorem AV.Aa (h:yI ns L w L' w') {c:AV} {y:Value} (hr:c.rep L w y):(c.kill ns).rep L' w' y:=by
 cases c with
 | o a=>exact AP.Aa (c:=a) h hr
 | t l=>obtain ⟨ys,h1,h2⟩:=hr;exact ⟨ys,h1,O8 h h2⟩
 | io a b l=>exact hr.elim
end
theorem aDW : ∀ c:FC,c.jA []=true:=fun c=>by cases c<;>rfl
theorem Mn : ∀ c:AC,c.kill []=c:=fun c=>by cases c<;>simp [AC.kill,aDW]
theorem H2 : ∀ c:AP,c.kill []=c:=fun c=>by
 cases c with
 | c a=>simp [AP.kill,Mn]
 | g cs=>simp only [AP.kill];congr 1;rw [show (fun c:AC=>c.kill [])=id from funext Mn];simp
theorem aKV : ∀ c:AV,c.kill []=c:=fun c=>by
 cases c with
 | o a=>simp [AV.kill,H2]
 | t l=>simp only [AV.kill];congr 1;rw [show (fun c:AP=>c.kill [])=id from funext H2];simp
 | io a b l=>rfl
theorem drop_nil (s:St):s.drop []=s:=by
 unfold St.drop
 cases s with
 | mk tm mem=>
  congr 1
  ·funext t;exact aKV _
  ·funext n
   simp only [List.not_mem_nil,if_false]
   split
   ·rename_i cs h;rw [h];congr 1;rw [show (fun c:AC=>c.kill [])=id from funext Mn];simp
   ·rename_i h;rw [h]
theorem vM {s:St} {ns:List Nat} {n:Nat} (h:(s.drop ns).mem n≠none):n ∉ ns/\s.mem n≠none:=by
 unfold St.drop at h
 simp only at h
 split at h
 ·exact absurd rfl h
 ·rename_i hn
  refine ⟨hn,fun e=> ?_⟩
  rw [e] at h
  exact h rfl
theorem j8 {s:St} {ns:List Nat} {n:Nat} (hn:n ∉ ns) (h:s.mem n≠none):(s.drop ns).mem n≠none:=by
 unfold St.drop
 simp only [if_neg hn]
 cases hs:s.mem n with
 | none=>exact absurd hs h
 | some c=>simp
theorem Z8 {s:St} {ns:List Nat} {n:Nat} {cs:List AC} (h:(s.drop ns).mem n=some cs):n ∉ ns /\ ∃ c,s.mem n=some c/\cs=c.map (·.kill ns):=by
 unfold St.drop at h
 simp only at h
 split at h
 ·cases h
 ·rename_i hn
  refine ⟨hn,?_⟩
  split at h
  ·rename_i c hc;exact ⟨c,hc,by cases h;rfl⟩
  ·cases h
theorem Rel.drop (ns:List Nat) (R:Rel S0 w0 N μ s a w):Rel S0 w0 N μ (s.drop ns) a w:=by
 have hx:yI ns (own S0 μ s.mem) w (own S0 μ (s.drop ns).mem) w:=by
  refine ⟨fun n hn h=>⟨j8 hn h,rfl⟩,fun b hb hlt=>⟨rfl,?_⟩,Nat.le_refl _,fun _ _ _=>rfl⟩
  rintro (h | ⟨m,hm,hmb⟩)
  ·exact hb (.inl h)
  ·exact hb (.inr ⟨m,(vM hm).2,hmb⟩)
 refine { tmp:=fun t=>AV.Aa hx (R.tmp t),mem:=fun n cs h=> ?_,inj:=fun n m hn hm=>R.inj n m (vM hn).2 (vM hm).2,below:=R.below,kS:=fun n b h hn=>R.kS n b h (vM hn).2,defers:=R.defers,size:=R.size,small:=R.small }
 obtain ⟨hn,c,hc,rfl⟩:=Z8 h
 obtain ⟨h1,ys,zs,T,h2,h3⟩:=R.mem n c hc
 exact ⟨h1,ys,zs,T,h2,Kp hx h3⟩
theorem Rel.turn (hS0:Start S0 w0) (R:Rel S0 w0 N μ s a w) {ns:List Nat} {d b:Nat} {cs:List AC} {ys zs:List Value} {T:TypeId} {w':World} (hd:s.mem d=none∨d∈ns) (hdst:S0.st d=none) (hb0:w0.heap.size<=b)
 (hb:w.heap.size<=b ∨ ∃ n∈ns,s.mem n≠none /\ μ n=b) (hblk:w'.heap[b]? = some (.cells (ys++zs).toArray T (0,0))) (hold : ∀ k,k<w.heap.size->k≠b->w'.heap[k]? = w.heap[k]?) (hsz:w.heap.size<=w'.heap.size)
 (hbel:fF S0.X w0 w') (hr:bE (own S0 μ s.mem) w cs ys) :
 Rel S0 w0 N (aP μ d b) ⟨(s.drop ns).tm,aP (s.drop ns).mem d (some (cs.map (·.kill ns)))⟩ a w'/\(own S0 (aP μ d b) (aP (s.drop ns).mem d (some (cs.map (·.kill ns))))).D d/\aP μ d b d=b:=by
 have hne : ∀ n,n ∉ ns->s.mem n≠none->n≠d:=fun n hn hm e=>by
  subst e
  rcases hd with h | h
  ·exact hm h
  ·exact hn h
 have hμb : ∀ n,n ∉ ns->s.mem n≠none -> μ n≠b:=fun n hn hm e=>by
  rcases hb with h | ⟨m,h1,h2,h3⟩
  ·have:=R.lt n hm;omega
  ·have:=R.inj n m hm h2 (e.trans h3.symm)
   exact hn (this ▸ h1)
 have hx:yI ns (own S0 μ s.mem) w (own S0 (aP μ d b) (aP (s.drop ns).mem d (some (cs.map (·.kill ns))))) w':=by
  refine ⟨fun n hn h=>⟨?_,?_⟩,fun k hk hlt=> ?_,hsz,fun n hn h=> ?_⟩
  ·show aP _ d _ n≠none
   rw [eK _ _ (hne n hn h)]
   exact j8 hn h
  ·show aP μ d b n = μ n
   rw [eK _ _ (hne n hn h)]
  ·have hkb:k≠b:=fun e=>by
    subst e
    rcases hb with h | ⟨m,h1,h2,h3⟩
    ·omega
    ·exact hk (.inr ⟨m,h2,h3⟩)
   refine ⟨hold k hlt hkb,?_⟩
   rintro (h | ⟨m,hm,hmk⟩)
   ·exact hk (.inl h)
   ·by_cases hmd:m=d
    ·subst hmd;rw [lZ] at hmk;exact hkb hmk.symm
    ·rw [eK _ _ hmd] at hm hmk
     exact hk (.inr ⟨m,(vM hm).2,hmk⟩)
  ·show w'.shape? (μ n)=w.shape? (μ n)
   unfold World.shape?
   rw [hold _ (R.lt n h) (hμb n hn h)]
 refine ⟨{ tmp:=fun t=>AV.Aa hx (R.tmp t),mem:=fun n c h=> ?_,inj:=fun i j hi hj hij=> ?_,below:=hbel,kS:=fun n c hc hn=> ?_,defers:=R.defers,size:=R.size,small:=R.small },?_,lZ _ _ _⟩
 ·dsimp only at h ⊢
  by_cases hnd:n=d
  ·subst hnd
   rw [lZ] at h ⊢
   cases h
   exact ⟨.inl hb0,ys,zs,T,hblk,Kp hx hr⟩
  ·rw [eK _ _ hnd] at h ⊢
   obtain ⟨hn,c0,hc0,rfl⟩:=Z8 h
   obtain ⟨h1,ys',zs',T',h2,h3⟩:=R.mem n c0 hc0
   have hm:s.mem n≠none:=by rw [hc0];simp
   exact ⟨h1,ys',zs',T',(hold _ (R.lt n hm) (hμb n hn hm)).trans h2,Kp hx h3⟩
 ·dsimp only at hi hj
  by_cases hi':i=d<;>by_cases hj':j=d
  ·rw [hi',hj']
  ·subst hi'
   rw [lZ,eK _ _ hj'] at hij
   rw [eK _ _ hj'] at hj
   obtain ⟨q1,q2⟩:=vM hj
   exact absurd hij.symm (hμb j q1 q2)
  ·subst hj'
   rw [lZ,eK _ _ hi'] at hij
   rw [eK _ _ hi'] at hi
   obtain ⟨q1,q2⟩:=vM hi
   exact absurd hij (hμb i q1 q2)
  ·rw [eK _ _ hi'] at hi hij
   rw [eK _ _ hj'] at hj hij
   exact R.inj i j (vM hi).2 (vM hj).2 hij
 ·have hnd:n≠d:=fun e=>by subst e;rw [hdst] at hc;cases hc
  dsimp only at hn
  rw [eK _ _ hnd] at hn ⊢
  exact R.kS n c hc (vM hn).2
 ·show aP _ d _ d≠none
  rw [lZ];simp
theorem Rel.fresh (hS0:Start S0 w0) (R:Rel S0 w0 N μ s a w) {d b:Nat} {cs:List AC} {ys zs:List Value} {T:TypeId} {w':World} (hd:s.mem d=none) (hdst:S0.st d=none) (hb:w.heap.size<=b)
 (hblk:w'.heap[b]? = some (.cells (ys++zs).toArray T (0,0))) (hbel:Below w.heap.size w w') (hr:bE (own S0 μ s.mem) w cs ys) :
 Rel S0 w0 N (aP μ d b) ⟨s.tm,aP s.mem d (some cs)⟩ a w'/\(own S0 (aP μ d b) (aP s.mem d (some cs))).D d/\aP μ d b d=b:=by
 have:=R.turn hS0 (ns:= []) (d:=d) (b:=b) (cs:=cs) (ys:=ys) (zs:=zs) (T:=T) (w':=w') (.inl hd) hdst (Nat.le_trans R.below.size hb) (.inl hb) hblk (fun k hk _=>hbel.block k hk) hbel.size (R.below.step hbel) hr
 rw [drop_nil] at this
 rwa [show (fun c:AC=>c.kill [])=id from funext Mn,List.map_id] at this
theorem Rel.alloc (hS0:Start S0 w0) (R:Rel S0 w0 N μ s a w) {n:Nat} (hn:s.mem n=none) (hdst:S0.st n=none) {cs:List AC} {ys:List Value} (T:TypeId) (hr:bE (own S0 μ s.mem) w cs ys) :
 Rel S0 w0 N (aP μ n w.heap.size) { s with mem:=aP s.mem n (some cs) } a { w with heap:=w.heap.push (.cells ys.toArray T (0,0)) } /\
 AC.rep (own S0 (aP μ n w.heap.size) (aP s.mem n (some cs))) { w with heap:=w.heap.push (.cells ys.toArray T (0,0)) } (.p n 0) (.pointer (some ⟨w.heap.size,0,none⟩)):=by
 have hb:Below w.heap.size w { w with heap:=w.heap.push (.cells ys.toArray T (0,0)) } :=
  ⟨rfl,rfl,rfl,by simp,fun k hk=>by show (w.heap.push _)[k]? = _;rw [Array.getElem?_push,if_neg (by omega)]⟩
 obtain ⟨h1,h2,h3⟩:=R.fresh hS0 (zs:= []) (T:=T) hn hdst (Nat.le_refl _) (by show (w.heap.push _)[w.heap.size]? = _;simp) hb hr
 exact ⟨h1,h2,by show _=Value.pointer (some ⟨aP μ n w.heap.size n,0,none⟩);rw [h3]⟩
theorem Rel.put {d:Option Nat} {v:AV} {y:Value} (R:Rel S0 w0 N μ s a w) (h:v.rep (own S0 μ s.mem) w y) (hd : ∀ n,d=some n->n<N):Rel S0 w0 N μ (s.put d v) (a.put d y) w:=by
 cases d with
 | none=>exact R
 | some n=>
  have hn:n<a.tmps.size:=by rw [R.size];exact hd n rfl
  refine { tmp:=fun t=> ?_,mem:=R.mem,inj:=R.inj,below:=R.below,kS:=R.kS,defers:=R.defers,size:=by simpa [Act.put] using R.size,small:=R.small }
  show (aP s.tm n v t).rep _ w ((a.tmps.setIfInBounds n y).getD t undef)
  by_cases ht:t=n
  ·subst ht
   rw [lZ]
   have e:(a.tmps.setIfInBounds t y).getD t undef=y:=by simp [Array.getD,hn]
   rw [e]
   exact h
  ·rw [eK _ _ ht]
   have:=R.tmp t
   rw [Array.getD_eq_getD_getElem?] at this ⊢
   rwa [Array.getElem?_setIfInBounds_ne (Ne.symm ht)]
end
end Go.VC
namespace Go.VC
open Go.RowKit
section
variable {P:Program} {S0:Cx} {w0:World} {N:Nat} {μ : Nat->Nat} {s s':St} {a:Act} {w:World} {sp:Spec} {o:Oper} {v:AV} {K:Act->World->Prop} {Q:Exit->Act->World->Prop} {dst:Option Nat}
def Sound (P:Program) (S0:Cx) (w0:World) (N:Nat) (o:Oper) (s':St) (v:AV) (a:Act) (w:World):Prop:=
 ∀ (K:Act->World->Prop) (Q:Exit->Act->World->Prop),(∀ μ' y w',Rel S0 w0 N μ' s' a w'->v.rep (own S0 μ' s'.mem) w' y->K (a.put o.dst y) w')->o.wp P a w K Q
theorem bU {y:Value} {w':World} {μ':Nat->Nat} (h:(execOp a.eval o).run P w = .ok (.value y) w') (R:Rel S0 w0 N μ' s' a w') (hv:v.rep (own S0 μ' s'.mem) w' y):Sound P S0 w0 N o s' v a w:=by
 intro K Q hK
 unfold Oper.wp
 rw [h]
 exact hK _ _ _ R hv
theorem aNi {w':World} {μ':Nat->Nat} (h:(execOp a.eval o).run P w = .ok .skip w') (R:Rel S0 w0 N μ' s' a w') (hv:v.rep (own S0 μ' s'.mem) w' undef):Sound P S0 w0 N o s' v a w:=by
 intro K Q hK
 unfold Oper.wp
 rw [h]
 exact hK _ _ _ R hv
theorem Vz {t:TypeId} {z:Value} (h:(P.info? t).bind (·.zero)=some z) (w:World):(zeroValue t).run P w = .ok z w:=by
 cases hi:P.info? t with
 | none=>simp [hi] at h
 | some i=>
  have hz:i.zero=some z:=by simpa [hi] using h
  simp [zeroValue,typeInfo,hi,hz]
theorem jV {t:TypeId} {n:Nat} (h:dH P t=some n) (w:World):(sizeOf t).run P w = .ok n w:=by
 unfold dH at h
 cases hi:P.info? t with
 | none=>simp [hi] at h
 | some i=>
  have hz:i.size=n:=by simpa [hi] using h
  simp [sizeOf,typeInfo,hi,hz]
theorem qV {t:TypeId} {b:Bool} (h:iV P t=some b) (w:World):(isAgg t).run P w = .ok b w:=by
 unfold iV at h
 cases hu:P.underlying t with
 | none=>simp [hu] at h
 | some d=>
  have hd:d.isRow=b:=by simpa [hu] using h
  unfold isAgg
  rw [Sem.run_bind,run_underlying hu w]
  cases d<;>simp_all
theorem aBf {x:Operand} {y:SA} (R:Rel S0 w0 N μ s a w) (hop:o.op = .move x∨o.op = .assign x) (hx:aJ x y=true) (he:aC sp dst (.mv y) s=some (v,s')):Sound P S0 w0 N o s' v a w:=by
 simp only [aC,Option.some.injEq,Prod.mk.injEq] at he
 obtain ⟨rfl,rfl⟩:=he
 refine bU (y:=a.eval x) (w':=w) ?_ R (R.ev hx)
 rcases hop with h | h<;>simp [execOp,h]
theorem aGO {c x y:Operand} {c' x' y':SA} (R:Rel S0 w0 N μ s a w) (hop:o.op = .pick c x y) (hc:aJ c c'=true) (hx:aJ x x'=true) (hy:aJ y y'=true) (he:aC sp dst (.pick c' x' y') s=some (v,s')):Sound P S0 w0 N o s' v a w:=by
 simp only [aC] at he
 split at he
 ·rename_i t ht
  simp only [Option.some.injEq,Prod.mk.injEq] at he
  obtain ⟨rfl,rfl⟩:=he
  have hb:=(R.val hc ht).1
  refine bU (y:=if t then a.eval x else a.eval y) (w':=w) ?_ R ?_
  ·simp only [execOp,hop,hb,asBool,Sem.run_bind,Sem.run_pure,Result.andThen_ok]
  ·cases t
   ·exact R.ev hy
   ·exact R.ev hx
 ·cases he
theorem aPv {t:TypeId} {z:List AC} (hS0:Start S0 w0) (hdn : ∀ n,dst=some n->S0.st n=none) (R:Rel S0 w0 N μ s a w) (hop:o.op = .alloc t) (hz:(match (P.info? t).bind (·.zero) with | some v=>jE v.cells.toList z | none=>false)=true) (he:aC sp dst (.alloc z) s=some (v,s')):Sound P S0 w0 N o s' v a w:=by
 simp only [aC] at he
 split at hz
 ·rename_i zv hzv
  split at he
  ·rename_i n
   split at he
   ·rename_i hn
    simp only [Option.some.injEq,Prod.mk.injEq] at he
    obtain ⟨rfl,rfl⟩:=he
    obtain ⟨R',h'⟩:=R.alloc hS0 hn (hdn n rfl) t (Hs (L:=own S0 μ s.mem) (w:=w) hz)
    refine bU (y:= .pointer (some ⟨w.heap.size,0,none⟩)) ?_ R' h'
    simp [execOp,hop,Instr.alloc,Vz hzv,newVar,newRow]
   ·cases he
  ·cases he
 ·cases hz
theorem aGM {t:TypeId} {x:Operand} {y:SA} (hS0:Start S0 w0) (hdn : ∀ n,dst=some n->S0.st n=none) (R:Rel S0 w0 N μ s a w) (hop:o.op = .box t x) (hx:aJ x y=true) (he:aC sp dst (.box y) s=some (v,s')):Sound P S0 w0 N o s' v a w:=by
 simp only [aC] at he
 split at he
 ·rename_i n ap hp
  split at he
  ·rename_i hn
   split at he
   ·rename_i hok
    simp only [Option.some.injEq,Prod.mk.injEq] at he
    obtain ⟨rfl,rfl⟩:=he
    obtain ⟨R',h'⟩:=R.alloc hS0 hn (hdn n rfl) t (AP.Nl (R.part hx hp) hok)
    refine bU (y:= .pointer (some ⟨w.heap.size,0,none⟩)) ?_ R' h'
    simp [execOp,hop,Instr.box,newVar,newRow]
   ·cases he
  ·cases he
 ·cases he
theorem aBr {b:Nat} {ys zs:List Value} {T:TypeId} {fr:Nat×Nat} (h:w.heap[b]? = some (.cells (ys++zs).toArray T fr)) (off n:Nat):w.rangeAt b off ((ys.drop off).take n):=by
 intro j v hv
 rw [cell_of_row w b (off+j) (ys++zs).toArray T fr h]
 rw [List.getElem?_take] at hv
 split at hv
 ·rw [List.getElem?_drop] at hv
  have hlt:off+j<ys.length:=by
   rcases Nat.lt_or_ge (off+j) ys.length with h | h
   ·exact h
   ·rw [List.getElem?_eq_none h] at hv;cases hv
  simp only [List.getElem?_toArray]
  rw [List.getElem?_append_left hlt]
  exact hv
 ·cases hv
theorem zC {b:Nat} {ys zs:List Value} {T:TypeId} {fr:Nat×Nat} (h:w.heap[b]? = some (.cells (ys++zs).toArray T fr)) {off:Nat} {y:Value} (hy:ys[off]? = some y):w.cell? ⟨b,off,none⟩=some y:=by
 rw [cell_of_row w b off (ys++zs).toArray T fr h]
 have hlt:off<ys.length:=(List.getElem?_eq_some_iff.1 hy).1
 simp only [List.getElem?_toArray]
 rw [List.getElem?_append_left hlt]
 exact hy
theorem QC.Qx {L:aY} {c:QC} {y:Value} (h:c.rep L.S w y):c.ac.rep L w y:=by
 cases c with
 | v x=>exact h
 | r e l=>exact h
 | qv m l=>
  rcases h with ⟨h1,rfl⟩ | ⟨b,o,n,c,h1,h2,h3,h4,h5,h6⟩
  ·exact .inl ⟨h1,rfl⟩
  ·refine .inr ⟨b,o,n,c,h1,by rw [List.length_map];exact h2,h3,h4,h5,fun j q hj=> ?_⟩
   rw [List.getElem?_map] at hj
   cases hl:l[j]? with
   | none=>rw [hl] at hj;cases hj
   | some x=>
    rw [hl] at hj
    simp only [Option.map_some,Option.some.injEq] at hj
    subst hj
    exact ⟨x,(h6 j x hl).1,rfl,(h6 j x hl).2⟩
 | kv x=>exact h
 | pN m l=>
  obtain ⟨b,o,h1,h2,h3,z,h4,h5⟩:=h
  refine ⟨b,o,h1,h2,h3,fun j c hj=> ?_⟩
  cases j with
  | zero=>simp at hj;subst hj;exact ⟨z,h4,h5⟩
  | succ j=>simp at hj
theorem Ss {L:aY} {b:Nat} : ∀ (cs:List QC) (o:Nat),tJ L.S w b o cs -> ∃ ys:List Value,bE L w (cs.map (·.ac)) ys/\w.rangeAt b o ys
 | [],o,_=>⟨[],trivial,fun j v hv=>by simp at hv⟩
 | c::cs,o,h=>by
  obtain ⟨v,h1,h2⟩:=h 0 c rfl
  obtain ⟨ys,h3,h4⟩:=Ss (L:=L) (b:=b) cs (o+1) (fun j c' hj=>by
   have:=h (j+1) c' (by simpa using hj)
   rwa [show o+(j+1)=o+1+j by omega] at this)
  refine ⟨v::ys,⟨QC.Qx h2,h3⟩,fun j u hu=> ?_⟩
  cases j with
  | zero=>simp at hu;subst hu;exact h1
  | succ j=>
   have:=h4 j u (by simpa using hu)
   rwa [show o+1+j=o+(j+1) by omega] at this
theorem Z0 {S:Nat->Prop} {b o:Nat} {cs:List QC} (n:Nat) (h:tJ S w b o cs):tJ S w b o (cs.take n):=fun j c hj=>h j c (by
 rw [List.getElem?_take] at hj
 split at hj
 ·exact hj
 ·cases hj)
theorem Pe {S:Nat->Prop} {b o:Nat} {cs:List QC} (n:Nat) (h:tJ S w b o cs):tJ S w b (o+n) (cs.drop n):=fun j c hj=>by
 rw [List.getElem?_drop] at hj
 rw [Nat.add_assoc]
 exact h _ c hj
theorem aF0 {t:TypeId} {x:Operand} {y:SA} {agg:Bool} {size:Nat} (R:Rel S0 w0 N μ s a w) (hop:o.op = .load t x) (hrow:iV P t=some agg) (hsize:dH P t=some size) (h1:agg=true∨size=1) (hx:aJ x y=true) {nm:Option Nat} (he:aC sp dst (.load agg size y nm) s=some (v,s')):Sound P S0 w0 N o s' v a w:=by
 have hev:=R.ev hx
 simp only [aC] at he
 split at he
 ·rename_i n off hy
  rw [hy] at hev
  obtain ⟨hD,hp⟩:=hev
  split at he
  case isFalse=>cases he
  split at he
  ·rename_i cs hcs
   obtain ⟨_,ys,zs,T,hb,hr⟩:=R.mem n cs hcs
   have hl:=kP hr
   split at he
   ·rename_i hle
    cases agg with
    | true=>
     simp only [if_true,Option.some.injEq,Prod.mk.injEq] at he
     obtain ⟨rfl,rfl⟩:=he
     have hu : ∃ d,P.underlying t=some d/\d.isRow=true:=by
      unfold iV at hrow
      cases hu:P.underlying t with
      | none=>simp [hu] at hrow
      | some d=>exact ⟨d,rfl,by simpa [hu] using hrow⟩
     obtain ⟨d,hu,hd⟩:=hu
     have hlen:((ys.drop off).take size).length=size:=by rw [List.length_take,List.length_drop];omega
     refine bU (y:= .agg ((ys.drop off).take size).toArray) ?_ R ⟨_,rfl,oH _ (wY _ hr)⟩
     simp only [execOp,hop,hp,own,Sem.run_bind,run_loadAt_mid w (μ n) off t _ d (aBr hb off size) hu hd (by rw [hlen];exact hsize),Result.andThen_ok,Sem.run_pure]
    | false=>
     simp only [Bool.false_eq_true,if_false] at he
     split at he
     ·rename_i c hc
      split at he
      ·simp only [Option.some.injEq,Prod.mk.injEq] at he
       obtain ⟨rfl,rfl⟩:=he
       obtain ⟨yv,hyv,hrep⟩:=Ga off hr hc
       have hcell:w.cell? ⟨μ n,off,none⟩=some yv:=zC hb hyv
       refine bU (y:=yv) ?_ R hrep
       simp only [execOp,hop,hp,own,Instr.loadAt,Instr.sureAddr,loadVar,Sem.run_bind,Sem.run_pure,Result.andThen_ok,qV hrow,Bool.false_eq_true,if_false,run_load,hcell]
      ·cases he
     ·cases he
   ·cases he
  ·cases he
 ·rename_i x' hy
  rw [hy] at hev
  obtain ⟨h0,b,off,hp,hb1,hb2,hcell⟩:=hev
  cases agg with
  | true=>simp at he
  | false=>
   simp only [Bool.false_eq_true,if_false] at he
   split at he
   ·simp only [Option.some.injEq,Prod.mk.injEq] at he
    obtain ⟨rfl,rfl⟩:=he
    refine bU (y:=x') ?_ R ⟨rfl,h0⟩
    simp only [execOp,hop,hp,Instr.loadAt,Instr.sureAddr,loadVar,Sem.run_bind,Sem.run_pure,Result.andThen_ok,qV hrow,Bool.false_eq_true,if_false,run_load,hcell]
   ·cases he
 ·rename_i cs hy
  rw [hy] at hev
  obtain ⟨b,off,hp,hb1,hb2,hst⟩:=hev
  split at he
  ·rename_i hle
   cases agg with
   | true=>
    simp only [if_true,Option.some.injEq,Prod.mk.injEq] at he
    obtain ⟨rfl,rfl⟩:=he
    have hu : ∃ d,P.underlying t=some d/\d.isRow=true:=by
     unfold iV at hrow
     cases hu:P.underlying t with
     | none=>simp [hu] at hrow
     | some d=>exact ⟨d,rfl,by simpa [hu] using hrow⟩
    obtain ⟨d,hu,hd⟩:=hu
    obtain ⟨ys,h3,h4⟩:=Ss (L:=own S0 μ s.mem) (w:=w) (cs.take size) off (Z0 size hst)
    have hlen:ys.length=size:=by
     have:=kP h3
     rw [List.length_map,List.length_take] at this
     omega
    refine bU (y:= .agg ys.toArray) ?_ R ⟨_,rfl,h3⟩
    simp only [execOp,hop,hp,own,Sem.run_bind,run_loadAt_mid w b off t _ d h4 hu hd (by rw [hlen];exact hsize),Result.andThen_ok,Sem.run_pure]
   | false=>
    simp only [Bool.false_eq_true,if_false] at he
    split at he
    ·rename_i c hc
     split at he
     ·simp only [Option.some.injEq,Prod.mk.injEq] at he
      obtain ⟨rfl,rfl⟩:=he
      obtain ⟨yv,hcell,hrep⟩:=hst 0 c hc
      simp only [Nat.add_zero] at hcell
      refine bU (y:=yv) ?_ R (QC.Qx (L:=own S0 μ s.mem) hrep)
      simp only [execOp,hop,hp,own,Instr.loadAt,Instr.sureAddr,loadVar,Sem.run_bind,Sem.run_pure,Result.andThen_ok,qV hrow,Bool.false_eq_true,if_false,run_load,hcell]
     ·cases he
    ·cases he
  ·cases he
 ·cases he
end
end Go.VC
namespace Go.VC
open Go.RowKit
section
variable {P:Program} {S0:Cx} {w0:World} {N:Nat} {μ : Nat->Nat} {s s':St} {a:Act} {w:World} {sp:Spec} {o:Oper} {v:AV} {K:Act->World->Prop} {Q:Exit->Act->World->Prop} {dst:Option Nat}
theorem qG : ∀ (zs:List Value) (b off:Nat) (w:World) (ys:List Value) (T:TypeId),w.heap[b]? = some (.cells ys.toArray T (0,0))->off+zs.length<=ys.length ->
 (w.setCells b off zs).heap[b]? = some (.cells (ys.take off++zs++ys.drop (off+zs.length)).toArray T (0,0))/\(∀ k,k≠b->(w.setCells b off zs).heap[k]? = w.heap[k]?)/\(w.setCells b off zs).heap.size=w.heap.size/\Below b w (w.setCells b off zs)
 | [],b,off,w,ys,T,h,_=>by simp [World.setCells,h,Below.refl]
 | z::zs,b,off,w,ys,T,h,hl=>by
  rw [World.setCells]
  have h1:(w.setCell ⟨b,off,none⟩ z).heap[b]? = some (.cells (ys.set off z).toArray T (0,0)):=by
   simp [World.setCell,Array.getElem?_modify,h]
  have hlen:off+(zs.length+1)<=ys.length:=by simpa using hl
  obtain ⟨r1,r2,r3,r4⟩:=qG zs b (off+1) _ (ys.set off z) T h1 (by simp;omega)
  refine ⟨?_,fun k hk=>(r2 k hk).trans (Below.heap_setCell _ _ _ _ hk),r3.trans (by simp [World.setCell]),?_⟩
  ·rw [r1]
   have:List.take (off+1) (ys.set off z)++zs++List.drop (off+1+zs.length) (ys.set off z)=List.take off ys++z::zs++List.drop (off+(zs.length+1)) ys:=by
    have e1:List.take (off+1) (ys.set off z)=List.take off ys ++ [z]:=by
     rw [List.take_add_one,List.take_set_of_le (Nat.le_refl _)]
     simp [List.getElem?_set,show off<ys.length by omega]
    have e2:List.drop (off+1+zs.length) (ys.set off z)=List.drop (off+(zs.length+1)) ys:=by
     rw [List.drop_set_of_lt (by omega)]
     congr 1;omega
    rw [e1,e2];simp
   rw [this];rfl
  ·have hs:Below b w (w.setCell ⟨b,off,none⟩ z):=⟨rfl,rfl,rfl,by simp [World.setCell],fun k hk=>Below.heap_setCell w ⟨b,off,none⟩ z k (by show k≠b;omega)⟩
   exact hs.trans r4
theorem aEc {t:TypeId} {x y:Operand} {x' y':SA} {size:Nat} (R:Rel S0 w0 N μ s a w) (hop:o.op = .store t x y) (hsize:dH P t=some size) (hx:aJ x x'=true) (hy:aJ y y'=true) {nm:Nat} (he:aC sp dst (.store size x' y' nm) s=some (v,s')):Sound P S0 w0 N o s' v a w:=by
 simp only [aC] at he
 split at he
 ·rename_i n off ap hpt hpa
  obtain ⟨hp,hD⟩:=R.ptr hx hpt
  split at he
  case isFalse=>cases he
  split at he
  ·rename_i cs hcs
   split at he
   ·rename_i hcond
    obtain ⟨hc1,hc2,hc3⟩:=hcond
    simp only [Option.some.injEq,Prod.mk.injEq] at he
    obtain ⟨rfl,rfl⟩:=he
    obtain ⟨hge,ys,zs,T,hb,hr⟩:=R.mem n cs hcs
    have hl:=kP hr
    have hok:ap.ok=true:=by
     cases ap with
     | c q=>cases q<;>first | rfl |(simp [AP.cells,AC.known] at hc3)
     | g q=>rfl
    have hrp:=AP.Nl (R.part hy hpa) hok
    have hl2:=kP hrp
    have hone : ∀ z∈(a.eval y).cells.toList,z.oneCell'=true:=Xj hc3 hrp
    have hsz:(a.eval y).cells.size=size:=by rw [← hc1,hl2];simp
    obtain ⟨q1,q2,q3,q4⟩:=qG (a.eval y).cells.toList (μ n) off w (ys++zs) T hb (by rw [← hl2,List.length_append,← hl,hc1];omega)
    have hthere : ∀ j,j<(a.eval y).cells.size->(w.cell? ⟨μ n,off+j,none⟩).isSome=true/\w.frozen? ⟨μ n,off+j,none⟩=false:=by
     intro j hj
     have:off+j<ys.length:=by rw [← hl];omega
     refine ⟨?_,by simp [World.frozen?,hb]⟩
     rw [zC hb (List.getElem?_eq_getElem this)]
     rfl
    have hst:(storeVar t ⟨μ n,off,none⟩ (a.eval y)).run P w = .ok () (w.setCells (μ n) off (a.eval y).cells.toList):=by
     have hsc:=run_storeCells_cells (P:=P) (μ n) off (a.eval y).cells.toList 0 w (fun j hj=>by simpa using (hthere j (by simpa using hj)).1) (fun j hj=>by simpa using (hthere j (by simpa using hj)).2) hone
     simp only [Nat.add_zero] at hsc
     simp only [storeVar,Sem.run_bind,jV hsize,Result.andThen_ok,hsz,ne_eq,not_true_eq_false,if_false]
     exact hsc
    have hh : ∀ q,aP s.mem n (some (kH cs off ap.cells)) q≠none->s.mem q≠none:=by
     intro q hq
     by_cases hne:q=n
     ·subst hne;exact hD
     ·rwa [eK _ _ hne] at hq
    have hshp : ∀ k,k<w.heap.size->(w.setCells (μ n) off (a.eval y).cells.toList).shape? k=w.shape? k:=by
     intro k _
     unfold World.shape?
     by_cases hne:k = μ n
     ·rw [hne,q1,hb]
      simp only [List.size_toArray,List.length_append,List.length_take,List.length_drop]
      congr 2
      have:(a.eval y).cells.toList.length=size:=by rw [← hl2,hc1]
      rw [this];omega
     ·rw [q2 _ hne]
    have hx1:Ext (own S0 μ s.mem) w (own S0 μ (aP s.mem n (some (kH cs off ap.cells)))) (w.setCells (μ n) off (a.eval y).cells.toList):=by
     refine ⟨fun m hm=>⟨?_,rfl⟩,fun b hbS hlt=>⟨q2 b (fun e=>hbS (.inr ⟨n,hD,e.symm⟩)),?_⟩,by rw [q3];exact Nat.le_refl _,fun m hm=> ?_⟩
     ·show aP s.mem n _ m≠none
      by_cases hne:m=n
      ·subst hne;rw [lZ];simp
      ·rw [eK _ _ hne];exact hm
     ·rintro (h | ⟨m,hm,hmb⟩)
      ·exact hbS (.inl h)
      ·by_cases hne:m=n
       ·subst hne;exact hbS (.inr ⟨m,hD,hmb⟩)
       ·rw [eK _ _ hne] at hm;exact hbS (.inr ⟨m,hm,hmb⟩)
     ·show (World.setCells _ _ _ _).shape? (μ m)=w.shape? (μ m)
      unfold World.shape?
      by_cases hne : μ m = μ n
      ·rw [hne,q1,hb]
       simp only [List.size_toArray,List.length_append,List.length_take,List.length_drop]
       congr 2
       have:(a.eval y).cells.toList.length=size:=by rw [← hl2,hc1]
       rw [this];omega
      ·rw [q2 _ hne]
    have R':Rel S0 w0 N μ { s with mem:=aP s.mem n (some (kH cs off ap.cells)) } a (w.setCells (μ n) off (a.eval y).cells.toList):=by
     refine R.move hx1 (fun m c h=> ?_) (fun i j hi hj hij=> ?_) (R.below.one (R.Ve n hD) q4.os q4.tape q4.output q4.size (fun k _ hk=>q2 k hk) hshp) (fun m b h hm=>R.kS m b h (hh m hm))
     ·by_cases hne:m=n
      ·subst hne
       rw [lZ] at h
       cases h
       have hr':=nB hx1 hr
       have hrp':=nB hx1 hrp
       have hz:(a.eval y).cells.toList.length=size:=by rw [← hl2,hc1]
       refine ⟨hge,ys.take off++(a.eval y).cells.toList++ys.drop (off+ap.cells.length),zs,T,?_,vP (vP (oH _ hr') hrp') (wY _ hr')⟩
       rw [q1,hz,hc1,List.take_append_of_le_length (by omega),List.drop_append_of_le_length (by omega)]
       simp only [List.append_assoc]
      ·rw [eK _ _ hne] at h
       obtain ⟨h1,ys',zs',T',h2,h3⟩:=R.mem m c h
       have hmn : μ m ≠ μ n:=fun e=>hne (R.inj m n (by rw [h];simp) hD e)
       exact ⟨h1,ys',zs',T',(q2 _ hmn).trans h2,nB hx1 h3⟩
     ·exact R.inj i j (hh i hi) (hh j hj) hij
    refine aNi (w':=w.setCells (μ n) off (a.eval y).cells.toList) ?_ R' trivial
    simp only [execOp,hop,hp,Instr.storeAt,Instr.sureAddr,Sem.run_bind,Sem.run_pure,Result.andThen_ok,hst]
   ·cases he
  ·cases he
 ·cases he
theorem aII {t:TypeId} {x:Operand} {y:SA} {i off:Nat} (R:Rel S0 w0 N μ s a w) (hop:o.op = .fieldAddr t x i) (hf:(match Gz P t i with | some f=>f.offset==off&&(match dH P f.type with | some n=>n != 0 | none=>false)| none=>false)=true) (hx:aJ x y=true) (he:aC sp dst (.aI off y) s=some (v,s')):Sound P S0 w0 N o s' v a w:=by
 have hev:=R.ev hx
 have step : ∀ (b q:Nat),a.eval x = .pointer (some ⟨b,q,none⟩)->(execOp a.eval o).run P w = .ok (.value (.pointer (some ⟨b,q+off,none⟩))) w:=by
  intro b q hp
  split at hf
  ·rename_i f hfp
   simp only [Bool.and_eq_true,beq_iff_eq] at hf
   obtain ⟨hoff,hsz⟩:=hf
   split at hsz
   ·rename_i m hm
    have hm0:m≠0:=by simpa using hsz
    unfold Gz at hfp
    split at hfp
    ·rename_i fs hu
     simp only [execOp,hop,hp,Instr.fieldAt,Sem.run_bind,run_underlying hu,Result.andThen_ok,hfp,Instr.sureAddr,Sem.run_pure,fieldPlace,jV hm,hm0,if_false,Addr.add_mid,hoff]
    ·cases hfp
   ·cases hsz
  ·cases hf
 simp only [aC] at he
 split at he
 ·rename_i n q hq
  simp only [Option.some.injEq,Prod.mk.injEq] at he
  obtain ⟨rfl,rfl⟩:=he
  rw [hq] at hev
  exact bU (w':=w) (step _ _ hev.2) R ⟨hev.1,rfl⟩
 ·rename_i cs hq
  simp only [Option.some.injEq,Prod.mk.injEq] at he
  obtain ⟨rfl,rfl⟩:=he
  rw [hq] at hev
  obtain ⟨b,q,h1,h2,h3,h4⟩:=hev
  exact bU (w':=w) (step _ _ h1) R ⟨b,q+off,rfl,h2,h3,Pe off h4⟩
 ·cases he
theorem aHi {t:TypeId} {x:Operand} {y:SA} {i off size:Nat} {agg:Bool} (R:Rel S0 w0 N μ s a w) (hop:o.op = .field t x i) (hf:(match Gz P t i with | some f=>f.offset==off&&iV P f.type==some agg&&dH P f.type==some size&&(agg||size==1)| none=>false)=true) (hx:aJ x y=true) (he:aC sp dst (.part agg off size y) s=some (v,s')):Sound P S0 w0 N o s' v a w:=by
 simp only [aC] at he
 split at he
 ·rename_i cs hcs
  obtain ⟨ys,hy,hr⟩:=R.agg hx hcs
  have hl:=kP hr
  split at hf
  ·rename_i f hfp
   simp only [Bool.and_eq_true,beq_iff_eq] at hf
   obtain ⟨⟨⟨hoff,hrow⟩,hsz⟩,h1⟩:=hf
   unfold Gz at hfp
   split at hfp
   ·rename_i fs hu
    split at he
    ·rename_i hle
     cases agg with
     | true=>
      simp only [if_true,Option.some.injEq,Prod.mk.injEq] at he
      obtain ⟨rfl,rfl⟩:=he
      refine bU (y:= .agg ((ys.drop off).take size).toArray) (w':=w) ?_ R ⟨_,rfl,oH _ (wY _ hr)⟩
      have e:ys.toArray.extract off (off+size)=((ys.drop off).take size).toArray:=by
       apply Array.ext'
       simp [List.extract_eq_take_drop]
      simp only [execOp,hop,hy,Instr.field,Sem.run_bind,run_underlying hu,Result.andThen_ok,hfp,asAgg,Sem.run_pure,part,qV hrow,if_true,jV hsz,hoff,e]
     | false=>
      simp only [Bool.false_eq_true,if_false] at he
      split at he
      ·rename_i c hc
       simp only [Option.some.injEq,Prod.mk.injEq] at he
       obtain ⟨rfl,rfl⟩:=he
       obtain ⟨yv,hyv,hrep⟩:=Ga off hr hc
       refine bU (y:=yv) (w':=w) ?_ R hrep
       have e:ys.toArray[off]? = some yv:=by simpa using hyv
       simp only [execOp,hop,hy,Instr.field,Sem.run_bind,run_underlying hu,Result.andThen_ok,hfp,asAgg,Sem.run_pure,part,qV hrow,Bool.false_eq_true,if_false,hoff,e]
      ·cases he
    ·cases he
   ·cases hfp
  ·cases hf
 ·cases he
end
end Go.VC
namespace Go.VC
open Go.RowKit
section
variable {P:Program} {S0:Cx} {w0:World} {N:Nat} {μ : Nat->Nat} {s s':St} {a:Act} {w:World} {sp:Spec} {o:Oper} {v:AV} {K:Act->World->Prop} {Q:Exit->Act->World->Prop} {dst:Option Nat}
theorem Ux : ∀ (zs:List Value) (ys:List Value) (off k:Nat),off+k+zs.length<=ys.length ->
 ((zs.zipIdx k).foldl (fun (cs:Array Value) (x:Value×Nat)=>cs.setIfInBounds (off+x.2) x.1) ys.toArray)=(ys.take (off+k)++zs++ys.drop (off+k+zs.length)).toArray
 | [],ys,off,k,h=>by simp
 | z::zs,ys,off,k,h=>by
  have hlen:off+k+(zs.length+1)<=ys.length:=by simpa using h
  simp only [List.zipIdx_cons,List.foldl_cons]
  have e:ys.toArray.setIfInBounds (off+k) z=(ys.set (off+k) z).toArray:=by simp
  rw [e,Ux zs (ys.set (off+k) z) off (k+1) (by simp;omega)]
  have e1:List.take (off+(k+1)) (ys.set (off+k) z)=List.take (off+k) ys ++ [z]:=by
   rw [← Nat.add_assoc,List.take_add_one,List.take_set_of_le (Nat.le_refl _)]
   simp [List.getElem?_set,show off+k<ys.length by omega]
  have e2:List.drop (off+(k+1)+zs.length) (ys.set (off+k) z)=List.drop (off+k+(zs.length+1)) ys:=by
   rw [List.drop_set_of_lt (by omega)]
   congr 1;omega
  rw [e1,e2];simp
theorem Zq {P:Program} {fs:Array Field} {places:Array (Nat×Nat)} (hp : ∀ (i:Nat) (f:Field),fs[i]? = some f -> ∃ n,dH P f.type=some n/\places[i]? = some (f.offset,n)) (R:Rel S0 w0 N μ s a w) :
 ∀ (ps:List (Nat×Operand)) (parts:List (Nat×Nat×SA)) (cs:List AC) (ys:List Value) {res:List AC},Kx P fs ps parts=true->bE (own S0 μ s.mem) w cs ys->eZ s cs parts=some res ->
  ∃ zs:List Value,Instr.fill (places[·]?) ys.toArray (ps.map fun x=>(x.1,a.eval x.2))=some zs.toArray/\bE (own S0 μ s.mem) w res zs
 | [],[],cs,ys,res,_,hr,hf=>by
  simp only [eZ,Option.some.injEq] at hf
  subst hf
  exact ⟨ys,rfl,hr⟩
 | [],_::_,_,_,_,h,_,_=>by cases h
 | _::_,[],_,_,_,h,_,_=>by cases h
 | (i,x)::ps,(off,size,y)::parts,cs,ys,res,h,hr,hf=>by
  simp only [Kx,Bool.and_eq_true] at h
  obtain ⟨⟨h1,h2⟩,h3⟩:=h
  simp only [eZ] at hf
  split at hf
  ·rename_i ap hap
   split at hf
   ·rename_i hcond
    obtain ⟨hok,hc1,hc2⟩:=hcond
    split at h1
    ·rename_i f hfi
     simp only [Bool.and_eq_true,beq_iff_eq] at h1
     obtain ⟨hoff,hsz⟩:=h1
     obtain ⟨n,hn,hpl⟩:=hp i f hfi
     have hns:n=size:=by rw [hn] at hsz;cases hsz;rfl
     subst hns
     have hrp:=AP.Nl (R.part h2 hap) hok
     have hl:=kP hr
     have hl2:=kP hrp
     have hcsz:(a.eval x).cells.size=n:=by rw [← hc1,hl2];simp
     obtain ⟨zs,hz,hrz⟩:=Zq hp R ps parts (kH cs off ap.cells) (ys.take off++(a.eval x).cells.toList++ys.drop (off+(a.eval x).cells.toList.length)) h3 (by
      unfold kH
      rw [hl2]
      exact vP (vP (oH _ hr) hrp) (wY _ hr)) hf
     refine ⟨zs,?_,hrz⟩
     simp only [List.map_cons,Instr.fill,hpl,hoff,hcsz]
     rw [if_neg (by simp;rw [← hl];omega)]
     have e:=Ux (a.eval x).cells.toList ys off 0 (by simp;rw [hcsz,← hl];omega)
     rw [← hz]
     congr 1
     rw [← Array.foldl_toList,Array.toList_zipIdx]
     simpa using e
    ·cases h1
   ·cases hf
  ·cases hf
theorem aBt {P:Program} {w:World} : ∀ (fs:List Field) (acc:List (Nat×Nat)),(∀ f∈fs,(dH P f.type).isSome=true) ->
 (fs.mapM fun f=>(do pure (f.offset,← sizeOf f.type):Sem (Nat×Nat))).run P w = .ok (fs.map fun f=>(f.offset,(dH P f.type).getD 0)) w
 | [],_,_=>by simp
 | f::fs,acc,h=>by
  obtain ⟨n,hn⟩:=Option.isSome_iff_exists.1 (h f (by simp))
  rw [List.mapM_cons]
  simp only [Sem.run_bind,jV hn,Result.andThen_ok,Sem.run_pure,aBt fs acc (fun g hg=>h g (by simp [hg])),List.map_cons,hn,Option.getD_some]
theorem aJf {t:TypeId} {ps:Array (Nat×Operand)} {z:List AC} {parts:List (Nat×Nat×SA)} (R:Rel S0 w0 N μ s a w) (hop:o.op = .build t ps)
 (hz:(match (P.info? t).bind (·.zero) with | some v=>jE v.cells.toList z | none=>false)=true) (hp:(match Bv P t with | some fs=>Kx P fs ps.toList parts | none=>false)=true) (hsz:Rg P t=true)
 (he:aC sp dst (.build z parts) s=some (v,s')):Sound P S0 w0 N o s' v a w:=by
 simp only [aC] at he
 split at he
 ·rename_i cs hcs
  simp only [Option.some.injEq,Prod.mk.injEq] at he
  obtain ⟨rfl,rfl⟩:=he
  split at hz
  ·rename_i zv hzv
   split at hp
   ·rename_i fs hfs
    have hu:P.underlying t=some (.struct fs):=by
     unfold Bv at hfs
     split at hfs
     ·cases hfs;assumption
     ·cases hfs
    have hall : ∀ f∈fs.toList,(dH P f.type).isSome=true:=by
     unfold Rg at hsz
     rw [hfs] at hsz
     exact fun f hf=>List.all_eq_true.1 hsz f hf
    have hmap:(fs.mapM fun f=>(do pure (f.offset,← sizeOf f.type):Sem (Nat×Nat))).run P w = .ok (fs.toList.map fun f=>(f.offset,(dH P f.type).getD 0)).toArray w:=by
     rw [Array.mapM_eq_mapM_toList,Sem.run_map,aBt fs.toList [] hall]
     rfl
    obtain ⟨zs,hfill,hr⟩:=Zq (P:=P) (fs:=fs) (places:=(fs.toList.map fun f=>(f.offset,(dH P f.type).getD 0)).toArray) (fun i f hi=>by
     have hmem:f∈fs.toList:=by
      have:fs.toList[i]? = some f:=by simpa using hi
      exact List.mem_of_getElem? this
     obtain ⟨n,hn⟩:=Option.isSome_iff_exists.1 (hall f hmem)
     refine ⟨n,hn,?_⟩
     simp [hi,hn]) R ps.toList parts z zv.cells.toList hp (Hs hz) hcs
    refine bU (y:= .agg zs.toArray) (w':=w) ?_ R ⟨zs,rfl,hr⟩
    have e:(ps.map fun x=>(x.1,a.eval x.2)).toList=ps.toList.map fun x=>(x.1,a.eval x.2):=by simp
    have e2:zv.cells.toList.toArray=zv.cells:=by simp
    rw [e2] at hfill
    simp only [execOp,hop,Instr.build,Sem.run_bind,Vz hzv,Result.andThen_ok,run_underlying hu,hmap]
    rw [e,hfill]
    simp
   ·cases hp
  ·cases hz
 ·cases he
theorem aOS {op:BinOp} {t:TypeId} {x y:Operand} {k k':IntKind} {m n:Int} : (eqGuard op t x y (.int k m) (.int k' n)).run P w = .ok () w:=by
 unfold eqGuard
 split<;>simp
theorem aFj {op:BinOp} {t:TypeId} {x y:Operand} {m n:Bool} : (eqGuard op t x y (.bool m) (.bool n)).run P w = .ok () w:=by
 unfold eqGuard
 split<;>simp
theorem aC3 {op:BinOp} {t:TypeId} {x y r:Value} (h:sM op x y=some r):(binOp op t x y).run P w = .ok r w:=by
 unfold sM at h
 split at h
 ·rename_i k m k' n
  split at h
  ·split at h
   ·cases h
   ·cases h
    rename_i hn
    simp [binOp,Op.shift,hn]
  ·split at h
   ·cases h
   ·cases h
    rename_i hn
    simp [binOp,Op.shift,hn]
  ·split at h
   ·rename_i hk
    subst hk
    unfold Ii at h
    split at h<;>first
     | (cases h;simp [binOp,Op.intArith,Op.intBits,Op.intCmp,cX];done)
     | (split at h
        ·cases h
        ·cases h
         rename_i hn
         simp [binOp,Op.intDiv,hn])
     | (cases h;done)
   ·cases h
 ·cases h
theorem aRI {op:BinOp} {t t':TypeId} {x y:Operand} {x' y':SA} (R:Rel S0 w0 N μ s a w) (hop:o.op = .binOp op t x y t') (hx:aJ x x'=true) (hy:aJ y y'=true) (he:aC sp dst (.bin op x' y') s=some (v,s')):Sound P S0 w0 N o s' v a w:=by
 simp only [aC] at he
 split at he
 ·rename_i p q hp hq
  split at he
  ·rename_i r hr
   simp only [Option.some.injEq,Prod.mk.injEq] at he
   obtain ⟨rfl,rfl⟩:=he
   have e1:=(R.val hx hp).1
   have e2:=(R.val hy hq).1
   have hone:r.oneCell'=true:=by
    unfold sM at hr
    split at hr
    ·split at hr
     ·split at hr<;>cases hr;rfl
     ·split at hr<;>cases hr;rfl
     ·split at hr
      ·unfold Ii at hr
       split at hr<;>first |(cases hr;rfl)|(split at hr<;>cases hr;rfl)| cases hr
      ·cases hr
    ·cases hr
   have hg:(eqGuard op t x y p q).run P w = .ok () w:=by
    unfold sM at hr
    split at hr
    ·exact aOS
    ·cases hr
   refine bU (y:=r) (w':=w) ?_ R ⟨rfl,hone⟩
   simp only [execOp,hop,e1,e2,Sem.run_bind,hg,aC3 hr,Result.andThen_ok,Sem.run_pure]
  ·cases he
 ·cases he
theorem aB1 {t:TypeId} (h:Kc P t=true):P.underlying t=some .bool:=by
 unfold Kc at h
 split at h
 ·assumption
 ·cases h
theorem aDY {t:TypeId} (ht:Kc P t=true) (p q:Bool) (d:Nat):(Op.equalIn (d+1) t (.bool p) (.bool q)).run P w = .ok (p==q) w:=by
 simp [Op.equalIn,run_underlying (aB1 ht)]
theorem aKA {op:BinOp} {t t':TypeId} {x y:Operand} {x' y':SA} {ne:Bool} (R:Rel S0 w0 N μ s a w) (hop:o.op = .binOp op t x y t') (ht:Kc P t=true) (ho:op=if ne then .neq else .eql) (hx:aJ x x'=true) (hy:aJ y y'=true) (he:aC sp dst (.qD ne x' y') s=some (v,s')):Sound P S0 w0 N o s' v a w:=by
 simp only [aC] at he
 split at he
 ·rename_i p q hp hq
  simp only [Option.some.injEq,Prod.mk.injEq] at he
  obtain ⟨rfl,rfl⟩:=he
  have e1:=(R.val hx hp).1
  have e2:=(R.val hy hq).1
  refine bU (y:= .bool (if ne then !(p==q) else p==q)) (w':=w) ?_ R ⟨rfl,rfl⟩
  have hE:(Op.equal t (.bool p) (.bool q)).run P w = .ok (p==q) w:=aDY ht p q 9999
  simp only [execOp,hop,e1,e2,Sem.run_bind,aFj,Result.andThen_ok]
  cases ne with
  | true=>simp only [if_true] at ho;subst ho;simp [binOp,hE]
  | false=>simp only [Bool.false_eq_true,if_false] at ho;subst ho;simp [binOp,hE]
 ·cases he
theorem aHm {t:TypeId} {x:Operand} {y:SA} (R:Rel S0 w0 N μ s a w) (hop:o.op = .unOp .not t x) (hx:aJ x y=true) (he:aC sp dst (.not y) s=some (v,s')):Sound P S0 w0 N o s' v a w:=by
 simp only [aC] at he
 split at he
 ·rename_i p hp
  simp only [Option.some.injEq,Prod.mk.injEq] at he
  obtain ⟨rfl,rfl⟩:=he
  refine bU (y:= .bool !p) (w':=w) ?_ R ⟨rfl,rfl⟩
  simp [execOp,hop,(R.val hx hp).1,Op.unary]
 ·cases he
theorem aOB {t:TypeId} {x:Operand} {y:SA} (R:Rel S0 w0 N μ s a w) (hop:o.op = .unOp .neg t x) (hx:aJ x y=true) (he:aC sp dst (.neg y) s=some (v,s')):Sound P S0 w0 N o s' v a w:=by
 simp only [aC] at he
 split at he
 ·rename_i k p hp
  simp only [Option.some.injEq,Prod.mk.injEq] at he
  obtain ⟨rfl,rfl⟩:=he
  refine bU (y:= .int k (k.wrap (0-p))) (w':=w) ?_ R ⟨rfl,rfl⟩
  simp [execOp,hop,(R.val hx hp).1,Op.unary,Op.intArith]
 ·cases he
theorem Mm {t:TypeId} {k:IntKind} (h:rM P t=some k):P.underlying t=some (.int k):=by
 unfold rM at h
 split at h
 ·cases h;assumption
 ·cases h
theorem aH7 {p q:TypeId} {x:Operand} {y:SA} {k:IntKind} (R:Rel S0 w0 N μ s a w) (hop:o.op = .convert p q x) (hp:(P.underlying p).isSome=true) (hq:rM P q=some k) (hx:aJ x y=true) (he:aC sp dst (.cH k y) s=some (v,s')):Sound P S0 w0 N o s' v a w:=by
 simp only [aC] at he
 split at he
 ·rename_i k' n hv
  simp only [Option.some.injEq,Prod.mk.injEq] at he
  obtain ⟨rfl,rfl⟩:=he
  obtain ⟨d,hd⟩:=Option.isSome_iff_exists.1 hp
  refine bU (y:= .int k (k.wrap n)) (w':=w) ?_ R ⟨rfl,rfl⟩
  simp [execOp,hop,(R.val hx hv).1,convert,run_underlying hd,run_underlying (Mm hq),Conv.intToInt]
 ·cases he
theorem Li {L:aY} : ∀ {aRR:List AP} {ys:List Value} (i:Nat) {a:AP},cP L w aRR ys->aRR[i]? = some a -> ∃ y,ys[i]? = some y/\a.rep L w y
 | [],[],_,_,_,h=>by simp at h
 | [],_::_,_,_,hr,_=>hr.elim
 | _::_,[],_,_,hr,_=>hr.elim
 | _::_,y::_,0,_,hr,h=>by simp at h;subst h;exact ⟨y,rfl,hr.1⟩
 | _::_,_::_,i+1,_,hr,h=>by simpa using Li i hr.2 (by simpa using h)
theorem aJy {x:Operand} {y:SA} {i:Nat} (R:Rel S0 w0 N μ s a w) (hop:o.op = .extract x i) (hx:aJ x y=true) (he:aC sp dst (.ext y i) s=some (v,s')):Sound P S0 w0 N o s' v a w:=by
 have hev:=R.ev hx
 simp only [aC] at he
 split at he
 ·rename_i l hl
  rw [hl] at hev
  obtain ⟨ys,hy,hr⟩:=hev
  split at he
  ·rename_i b hb
   simp only [Option.some.injEq,Prod.mk.injEq] at he
   obtain ⟨rfl,rfl⟩:=he
   obtain ⟨z,hz,hrz⟩:=Li i hr hb
   refine bU (y:=z) (w':=w) ?_ R hrz
   have e:ys.toArray[i]? = some z:=by simpa using hz
   simp only [execOp,hop,hy,Instr.extract,Sem.run_bind,e,Sem.run_pure,Result.andThen_ok]
  ·cases he
 ·cases he
end
end Go.VC
namespace Go.VC
open Go.RowKit
section
variable {P:Program} {S0:Cx} {w0:World} {N:Nat} {μ : Nat->Nat} {s s':St} {a:Act} {w:World} {sp:Spec} {o:Oper} {v:AV} {K:Act->World->Prop} {Q:Exit->Act->World->Prop} {dst:Option Nat}
theorem E7 : ∀ (k1 k2:List IntKind) (aRR bs:List AC) {r:Bool},bJ (k1++k2) aRR bs=some r ->
 ∃ r1 r2,bJ k1 (aRR.take k1.length) (bs.take k1.length)=some r1/\bJ k2 (aRR.drop k1.length) (bs.drop k1.length)=some r2/\r=(r1&&r2)
 | [],k2,aRR,bs,r,h=>⟨true,r,by simp [bJ],by simpa using h,by simp⟩
 | k::k1,k2,[],bs,r,h=>by cases bs<;>simp [bJ] at h
 | k::k1,k2,x::aRR,[],r,h=>by cases x<;>simp [bJ] at h
 | k::k1,k2,x::aRR,y::bs,r,h=>by
  simp only [List.cons_append] at h
  cases x with
  | v vx=>
   cases y with
   | v vy=>
    cases vx<;>try (simp [bJ] at h;done)
    cases vy<;>try (simp [bJ] at h;done)
    rename_i ka na kb nb
    simp only [bJ] at h
    split at h
    ·rename_i hk
     cases hq:bJ (k1++k2) aRR bs with
     | none=>simp [hq] at h
     | some q=>
      simp [hq] at h
      obtain ⟨r1,r2,h1,h2,rfl⟩:=E7 k1 k2 aRR bs hq
      refine ⟨(na==nb)&&r1,r2,?_,by simpa using h2,?_⟩
      ·simp [bJ,hk,h1]
      ·rw [← h,Bool.and_assoc]
    ·cases h
   | p n q=>cases vx<;>simp [bJ] at h
   | k z=>cases vx<;>simp [bJ] at h
   | r e l=>cases vx<;>simp [bJ] at h
   | s t n len=>cases vx<;>simp [bJ] at h
   | q m cs=>cases vx<;>simp [bJ] at h
   | kq cs=>cases vx<;>simp [bJ] at h
   | fn f caps=>cases vx<;>simp [bJ] at h
   | ik k=>cases vx<;>simp [bJ] at h
   | nil e=>cases vx<;>simp [bJ] at h
   | u=>cases vx<;>simp [bJ] at h
  | p n q=>simp [bJ] at h
  | k z=>simp [bJ] at h
  | r e l=>simp [bJ] at h
  | s t n len=>simp [bJ] at h
  | q m cs=>simp [bJ] at h
  | kq cs=>simp [bJ] at h
  | fn f caps=>simp [bJ] at h
  | ik k=>simp [bJ] at h
  | nil e=>simp [bJ] at h
  | u=>simp [bJ] at h
def aBj (P:Program) (d:Nat) (t:TypeId) (ks:List IntKind):Prop:=
 ∀ (L:aY) (w:World) (D:Nat) (aRR bs:List AC) (xs ys:List Value) (r:Bool),d<=D->bJ ks aRR bs=some r->bE L w aRR xs->bE L w bs ys ->
  (iV P t=some true->(Op.equalIn D t (.agg xs.toArray) (.agg ys.toArray)).run P w = .ok r w)/\(iV P t=some false -> ∃ x y,xs = [x]/\ys = [y]/\(Op.equalIn D t x y).run P w = .ok r w)
theorem L7 {d:Nat} (hrec : ∀ t ks,uS P d t=some ks->aBj P d t ks/\dH P t=some ks.length) {L:aY} {D:Nat} (hD:d<=D) {xs ys:List Value} {aRR bs:List AC} (hx:bE L w aRR xs) (hy:bE L w bs ys) :
 ∀ (fs:List Field) (off:Nat) (ks:List IntKind) {r:Bool},Jc (uS P d) off fs=some ks->bJ ks (aRR.drop off) (bs.drop off)=some r->(Op.eqFields D xs.toArray ys.toArray fs).run P w = .ok r w
 | [],off,ks,r,h,he=>by
  simp only [Jc,Option.some.injEq] at h
  subst h
  have:r=true:=by
   cases h1:aRR.drop off<;>cases h2:bs.drop off<;>simp [h1,h2,bJ] at he
   exact he
  subst this
  simp [Op.eqFields]
 | f::fs,off,ks,r,h,he=>by
  simp only [Jc] at h
  split at h
  ·rename_i hc
   obtain ⟨hn,rfl⟩:=hc
   split at h
   ·rename_i k1 hk1
    split at h
    ·rename_i k2 hk2
     cases h
     obtain ⟨r1,r2,e1,e2,rfl⟩:=E7 k1 k2 _ _ he
     obtain ⟨hok,hsz⟩:=hrec _ _ hk1
     have ih:=L7 hrec hD hx hy fs (f.offset+k1.length) k2 hk2 (by simpa [List.drop_drop] using e2)
     have hx1:=oH k1.length (wY f.offset hx)
     have hy1:=oH k1.length (wY f.offset hy)
     obtain ⟨q1,q2⟩:=hok L w D _ _ _ _ r1 hD e1 hx1 hy1
     have hone : ∃ X Y,(part f.type xs.toArray f.offset).run P w = .ok X w/\(part f.type ys.toArray f.offset).run P w = .ok Y w/\(Op.equalIn D f.type X Y).run P w = .ok r1 w:=by
      cases hrow:iV P f.type with
      | none=>
       exfalso
       unfold dH at hsz
       unfold iV at hrow
       cases d with
       | zero=>simp [uS] at hk1
       | succ d=>
        simp only [uS] at hk1
        cases hu:P.underlying f.type with
        | none=>simp [hu] at hk1
        | some dd=>simp [hu] at hrow
      | some b=>
       cases b with
       | true=>
        refine ⟨_,_,?_,?_,q1 hrow⟩
        ·have e:xs.toArray.extract f.offset (f.offset+k1.length)=((xs.drop f.offset).take k1.length).toArray:=by
          apply Array.ext'
          simp [List.extract_eq_take_drop]
         simp only [part,Sem.run_bind,qV hrow,Result.andThen_ok,if_true,jV hsz,e,Sem.run_pure]
        ·have e:ys.toArray.extract f.offset (f.offset+k1.length)=((ys.drop f.offset).take k1.length).toArray:=by
          apply Array.ext'
          simp [List.extract_eq_take_drop]
         simp only [part,Sem.run_bind,qV hrow,Result.andThen_ok,if_true,jV hsz,e,Sem.run_pure]
       | false=>
        obtain ⟨x,y,ex,ey,hq⟩:=q2 hrow
        have gx:xs.toArray[f.offset]? = some x:=by
         have:((xs.drop f.offset).take k1.length)[0]? = some x:=by rw [ex];rfl
         rw [List.getElem?_take] at this
         split at this
         ·simpa using this
         ·cases this
        have gy:ys.toArray[f.offset]? = some y:=by
         have:((ys.drop f.offset).take k1.length)[0]? = some y:=by rw [ey];rfl
         rw [List.getElem?_take] at this
         split at this
         ·simpa using this
         ·cases this
        refine ⟨x,y,?_,?_,hq⟩
        ·simp only [part,Sem.run_bind,qV hrow,Result.andThen_ok,Bool.false_eq_true,if_false,gx,Sem.run_pure]
        ·simp only [part,Sem.run_bind,qV hrow,Result.andThen_ok,Bool.false_eq_true,if_false,gy,Sem.run_pure]
     obtain ⟨X,Y,p1,p2,p3⟩:=hone
     rw [Op.eqFields,if_pos hn]
     simp only [Sem.run_bind,p1,p2,p3,Result.andThen_ok]
     cases r1
     ·simp
     ·simpa using ih
    ·cases h
   ·cases h
  ·cases h
theorem Z2 : ∀ (d:Nat) (t:TypeId) (ks:List IntKind),uS P d t=some ks->aBj P d t ks/\dH P t=some ks.length
 | 0,_,_,h=>by simp [uS] at h
 | d+1,t,ks,h=>by
  simp only [uS] at h
  split at h
  ·rename_i k hu
   split at h
   ·rename_i hsz
    cases h
    refine ⟨fun L w D aRR bs xs ys r hD he hx hy=>⟨fun hrow=> ?_,fun _=> ?_⟩,hsz⟩
    ·simp [iV,hu] at hrow
    ·obtain ⟨D,rfl⟩ : ∃ m,D=m+1:=⟨D-1,by omega⟩
     cases aRR with
     | nil=>cases bs<;>simp [bJ] at he
     | cons x aRR=>
      cases bs with
      | nil=>cases x<;>simp [bJ] at he
      | cons y bs=>
       cases x with
       | v vx=>
        cases y with
        | v vy=>
         cases vx<;>try (simp [bJ] at he;done)
         cases vy<;>try (simp [bJ] at he;done)
         rename_i ka na kb nb
         simp only [bJ] at he
         split at he
         ·rename_i hk
          obtain ⟨rfl,rfl⟩:=hk
          cases aRR<;>cases bs<;>simp [bJ] at he
          cases xs with
          | nil=>exact hx.elim
          | cons z zs=>
           cases ys with
           | nil=>exact hy.elim
           | cons z' zs'=>
            obtain ⟨⟨rfl,_⟩,hx2⟩:=hx
            obtain ⟨⟨rfl,_⟩,hy2⟩:=hy
            cases zs with
            | cons _ _=>exact hx2.elim
            | nil=>
             cases zs' with
             | cons _ _=>exact hy2.elim
             | nil=>
              refine ⟨_,_,rfl,rfl,?_⟩
              simp [Op.equalIn,run_underlying hu,he]
         ·cases he
        | p n q=>cases vx<;>simp [bJ] at he
        | k z=>cases vx<;>simp [bJ] at he
        | r e l=>cases vx<;>simp [bJ] at he
        | s t n len=>cases vx<;>simp [bJ] at he
        | q m cs=>cases vx<;>simp [bJ] at he
        | kq cs=>cases vx<;>simp [bJ] at he
        | fn f caps=>cases vx<;>simp [bJ] at he
        | ik k=>cases vx<;>simp [bJ] at he
        | nil e=>cases vx<;>simp [bJ] at he
        | u=>cases vx<;>simp [bJ] at he
       | p n q=>simp [bJ] at he
       | k z=>simp [bJ] at he
       | r e l=>simp [bJ] at he
       | s t n len=>simp [bJ] at he
       | q m cs=>simp [bJ] at he
       | kq cs=>simp [bJ] at he
       | fn f caps=>simp [bJ] at he
       | ik k=>simp [bJ] at he
       | nil e=>simp [bJ] at he
       | u=>simp [bJ] at he
   ·cases h
  ·rename_i fs hu
   split at h
   ·rename_i hheld
    split at h
    ·rename_i k1 hk1
     split at h
     ·rename_i hsz
      cases h
      refine ⟨fun L w D aRR bs xs ys r hD he hx hy=>⟨fun _=> ?_,fun hrow=> ?_⟩,hsz⟩
      ·obtain ⟨D,rfl⟩ : ∃ m,D=m+1:=⟨D-1,by omega⟩
       have hf:P.fieldsOf t=fs:=by simp [Program.fieldsOf,hu]
       rw [run_equalIn_struct (P:=P) w D t xs.toArray ys.toArray (by rw [hf];exact hu) hheld,hf]
       exact L7 (fun t ks hk=>Z2 d t ks hk) (by omega) hx hy fs.toList 0 ks hk1 (by simpa using he)
      ·simp [iV,hu] at hrow
     ·cases h
    ·cases h
   ·cases h
  ·cases h
theorem aPE {op:BinOp} {t t':TypeId} {x y:Operand} {x' y':SA} {ne:Bool} {ks:List IntKind} (R:Rel S0 w0 N μ s a w) (hop:o.op = .binOp op t x y t') (hs:(Bv P t).isSome=true) (hk:uS P 5 t=some ks) (hg:P.eqGuardType P.depth t=false) (ho:op=if ne then .neq else .eql) (hx:aJ x x'=true) (hy:aJ y y'=true) (he:aC sp dst (.eqs ne ks x' y') s=some (v,s')):Sound P S0 w0 N o s' v a w:=by
 simp only [aC] at he
 split at he
 ·rename_i aRR bs has hbs
  split at he
  ·rename_i r hr
   simp only [Option.some.injEq,Prod.mk.injEq] at he
   obtain ⟨rfl,rfl⟩:=he
   obtain ⟨xs,ex,hrx⟩:=R.agg hx has
   obtain ⟨ys,ey,hry⟩:=R.agg hy hbs
   have hrow:iV P t=some true:=by
    unfold Bv at hs
    split at hs
    ·rename_i fs hu;simp [iV,hu]
    ·cases hs
   have hE:(Op.equal t (.agg xs.toArray) (.agg ys.toArray)).run P w = .ok r w:=((Z2 5 t ks hk).1 _ w 10000 aRR bs xs ys r (by decide) hr hrx hry).1 hrow
   have hguard:(eqGuard op t x y (.agg xs.toArray) (.agg ys.toArray)).run P w = .ok () w:=by
    unfold eqGuard
    split<;>simp [hg]
   refine bU (y:= .bool (if ne then !r else r)) (w':=w) ?_ R ⟨rfl,rfl⟩
   simp only [execOp,hop,ex,ey,Sem.run_bind,hguard,Result.andThen_ok]
   cases ne with
   | true=>simp only [if_true] at ho;subst ho;simp [binOp,hE]
   | false=>simp only [Bool.false_eq_true,if_false] at ho;subst ho;simp [binOp,hE]
  ·cases he
 ·cases he
end
end Go.VC
namespace Go.VC
open Go.RowKit
section
variable {P:Program} {S0:Cx} {w0:World} {N:Nat} {μ : Nat->Nat} {s s':St} {a:Act} {w:World} {sp:Spec} {o:Oper} {v:AV} {K:Act->World->Prop} {Q:Exit->Act->World->Prop} {dst:Option Nat}
theorem wJ {t e:TypeId} (h:kL P t=some e):P.underlying t=some (.slice e):=by
 unfold kL at h
 split at h
 ·cases h;assumption
 ·cases h
theorem aEw {c:Call} {x:Operand} {y:SA} {t:TypeId} (R:Rel S0 w0 N μ s a w) (hop:o.op = .call c) (hcal:c.callee = .builtin .len) (hargs:c.args = #[x]) (ht:c.argTypes[0]? = some t) (hel:(kL P t).isSome=true) (hx:aJ x y=true) (he:aC sp dst (.len y) s=some (v,s')):Sound P S0 w0 N o s' v a w:=by
 have hev:=R.ev hx
 obtain ⟨e,hel⟩:=Option.isSome_iff_exists.1 hel
 have hu:=wJ hel
 simp only [aC] at he
 split at he
 ·rename_i n hn
  simp only [Option.some.injEq,Prod.mk.injEq] at he
  obtain ⟨rfl,rfl⟩:=he
  have hval : ∃ A c',a.eval x = .slice A n c':=by
   unfold AV.zJ at hn
   split at hn
   ·rename_i e' l hl
    cases hn
    rw [hl] at hev
    rcases hev with ⟨h1,rfl⟩ | ⟨b,o',c',h1,_⟩
    ·exact ⟨none,0,h1⟩
    ·exact ⟨_,_,h1⟩
   ·rename_i t' n' len' hl
    cases hn
    rw [hl] at hev
    obtain ⟨_,cap,h1,_⟩:=hev
    exact ⟨_,_,h1⟩
   ·rename_i m cs hl
    rw [hl] at hev
    split at hn
    ·cases hn
    ·rename_i hm
     cases hn
     rcases hev with ⟨h1,rfl⟩ | ⟨b,o',n',c',h1,h2,_⟩
     ·exact ⟨none,0,by simpa using h1⟩
     ·have e:cs.length/m=n':=by rw [h2,Nat.mul_div_cancel _ (by omega)]
      exact ⟨some ⟨b,o',none⟩,c',by rw [e];exact h1⟩
   ·rename_i hl
    cases hn
    rw [hl] at hev
    exact ⟨none,0,hev⟩
   ·cases hn
  obtain ⟨A,c',hA⟩:=hval
  refine bU (y:= .int .i64 n) (w':=w) ?_ R ⟨rfl,rfl⟩
  simp [execOp,hop,resolve,hcal,hargs,invoke,builtin,Builtin.len_,ht,hA,run_underlying hu,goInt]
 ·cases he
theorem aQR {t el:TypeId} {x i:Operand} {y j:SA} {m:Nat} (R:Rel S0 w0 N μ s a w) (hop:o.op = .indexAddr t x i) (hel:kL P t=some el) (hsz:dH P el=some m) (hx:aJ x y=true) (hi:aJ i j=true) (he:aC sp dst (.idx m y j) s=some (v,s')):Sound P S0 w0 N o s' v a w:=by
 have hu:=wJ hel
 have hev:=R.ev hx
 have step : ∀ (b q n c:Nat) (k:IntKind) (jj:Int),a.eval x = .slice (some ⟨b,q,none⟩) n c->a.eval i = .int k jj->0<=jj/\jj<n->(execOp a.eval o).run P w = .ok (.value (.pointer (some ⟨b,q+jj.toNat*m,none⟩))) w:=by
  intro b q n c k jj h1 ej hc
  simp only [execOp,hop,h1,ej,Instr.indexAt,Sem.run_bind,asIntOf,Sem.run_pure,Result.andThen_ok,run_underlying hu,jV hsz]
  rw [if_pos hc]
  simp only [Sem.run_bind,jV hsz,Result.andThen_ok,Sem.run_pure,Addr.add_mid]
 simp only [aC] at he
 split at he
 ·rename_i k jj hj
  have ej:=(R.val hi hj).1
  split at he
  ·rename_i t' n len hy
   rw [hy] at hev
   split at he
   ·rename_i hc
    obtain ⟨hm,h0,h1⟩:=hc
    simp only [Option.some.injEq,Prod.mk.injEq] at he
    obtain ⟨rfl,rfl⟩:=he
    obtain ⟨hD,cap,g1,_⟩:=hev
    exact bU (w':=w) (step _ _ _ _ _ _ g1 ej ⟨h0,h1⟩) R ⟨hD,by rw [Nat.zero_add]⟩
   ·cases he
  ·rename_i e l hy
   rw [hy] at hev
   split at he
   ·rename_i hc
    obtain ⟨hm,h0,h1⟩:=hc
    subst hm
    simp only [Option.some.injEq,Prod.mk.injEq] at he
    obtain ⟨rfl,rfl⟩:=he
    rcases hev with ⟨g1,rfl⟩ | ⟨b,o',c',g1,g2,g3,g4,g5⟩
    ·exfalso;simp at h1;omega
    ·exact bU (w':=w) (step _ _ _ _ _ _ g1 ej ⟨h0,h1⟩) R ⟨rfl,b,_,rfl,g3,g4,by rw [Nat.mul_one];exact g5 jj.toNat (by omega)⟩
   ·cases he
  ·rename_i m' cs hy
   rw [hy] at hev
   split at he
   ·rename_i hc
    obtain ⟨hm,h0,h1,hpos⟩:=hc
    subst hm
    simp only [Option.some.injEq,Prod.mk.injEq] at he
    obtain ⟨rfl,rfl⟩:=he
    rcases hev with ⟨g1,rfl⟩ | ⟨b,o',n,c',g1,g2,g3,g4,g5,g6⟩
    ·exfalso;simp at h1;omega
    ·have hlt:jj<n:=by
      rw [g2] at h1
      have:jj.toNat<n:=by
       rcases Nat.lt_or_ge jj.toNat n with h | h
       ·exact h
       ·have:=Nat.mul_le_mul_right m' h;omega
      omega
     exact bU (w':=w) (step _ _ _ _ _ _ g1 ej ⟨h0,hlt⟩) R ⟨b,_,rfl,g4,g5,Pe _ g6⟩
   ·cases he
  ·cases he
 ·cases he
theorem Px (R:Rel S0 w0 N μ s a w) {x:Option Operand} {y:Option SA} (h:jO x y=true) {d i:Int} (hv:bO s y d=some i):(x=none/\i=d) ∨ ∃ x' k,x=some x'/\a.eval x' = .int k i:=by
 unfold jO at h
 split at h
 ·simp only [bO,Option.some.injEq] at hv
  exact .inl ⟨rfl,hv.symm⟩
 ·rename_i x' y'
  simp only [bO] at hv
  split at hv
  ·rename_i k i' hi
   cases hv
   exact .inr ⟨x',k,rfl,(R.val h hi).1⟩
  ·cases hv
 ·cases h
theorem Mw {k:IntKind} {i:Int} {m:Nat} {c:BoundsCode} (h0:0<=i) (h1:i<=m):(Instr.sliceBound (.int k i) m c).run P w = .ok i.toNat w:=by
 simp only [Instr.sliceBound,asIntOf,Sem.run_bind,Sem.run_pure,Result.andThen_ok,Sem.run_ite]
 rw [if_pos ⟨h0,h1⟩]
theorem Je (R:Rel S0 w0 N μ s a w) {lo hi:Option Operand} {lo' hi':Option SA} (hl:jO lo lo'=true) (hh:jO hi hi'=true) {len cap:Nat} {i j:Int} (hi1:bO s lo' 0=some i) (hj1:bO s hi' len=some j) (h0:0<=i) (h1:i<=j) (h2:j<=len) (hc:len<=cap) :
 (Instr.sliceBounds true len cap (lo.map a.eval) (hi.map a.eval) none).run P w = .ok (i.toNat,j.toNat,cap) w:=by
 have hj':(j.toNat:Int)=j:=by omega
 rcases Px R hl hi1 with ⟨rfl,rfl⟩ | ⟨x1,k1,rfl,e1⟩<;>rcases Px R hh hj1 with ⟨rfl,rfl⟩ | ⟨x2,k2,rfl,e2⟩
 ·simp [Instr.sliceBounds]
 ·simp [Instr.sliceBounds,e2,Mw (P:=P) (w:=w) (show (0:Int)<=j by omega) (show j<=(cap:Int) by omega)]
 ·simp [Instr.sliceBounds,e1,Mw (P:=P) (w:=w) h0 (show i<=(len:Int) by omega)]
 ·simp [Instr.sliceBounds,e1,e2,Mw (P:=P) (w:=w) (show (0:Int)<=j by omega) (show j<=(cap:Int) by omega),Mw (P:=P) (w:=w) h0 (show i<=((j.toNat:Nat):Int) by omega)]
theorem aNT {t el:TypeId} {x:Operand} {y:SA} {lo hi:Option Operand} {lo' hi':Option SA} (R:Rel S0 w0 N μ s a w) (hop:o.op = .slice t x lo hi none) (hel:kL P t=some el) (hsz:dH P el=some 1) (hx:aJ x y=true) (hlo:jO lo lo'=true) (hhi:jO hi hi'=true) (he:aC sp dst (.sl y lo' hi') s=some (v,s')):Sound P S0 w0 N o s' v a w:=by
 have hu:=wJ hel
 have hev:=R.ev hx
 have nil : ∀ {i j:Int},a.eval x = .slice none 0 0->bO s lo' 0=some i->bO s hi' 0=some j->0<=i->i<=j->j<=0->(execOp a.eval o).run P w = .ok (.value (.slice none 0 0)) w:=by
  intro i j g1 hi1 hj1 h0 h1 h2
  have hi0:i=0:=by omega
  have hj0:j=0:=by omega
  subst hi0 hj0
  have hb:=Je (P:=P) (cap:=0) (len:=0) R hlo hhi hi1 hj1 h0 h1 h2 (Nat.le_refl _)
  simp only [execOp,hop,Instr.sliceAt,Sem.run_bind,run_underlying hu,Result.andThen_ok,Instr.slice,g1,Option.map_none,hb,jV hsz]
  simp
 simp only [aC] at he
 split at he
 ·rename_i e l hl
  rw [hl] at hev
  split at he
  ·rename_i i j hi1 hj1
   split at he
   ·rename_i hc
    obtain ⟨h0,h1,h2⟩:=hc
    simp only [Option.some.injEq,Prod.mk.injEq] at he
    obtain ⟨rfl,rfl⟩:=he
    have hlen:((l.take j.toNat).drop i.toNat).length=j.toNat-i.toNat:=by rw [List.length_drop,List.length_take];omega
    rcases hev with ⟨g1,rfl⟩ | ⟨b,o',c',g1,g2,g3,g4,g5⟩
    ·exact bU (y:= .slice none 0 0) (w':=w) (nil g1 hi1 hj1 h0 h1 h2) R (.inl ⟨rfl,by simp⟩)
    ·have hb:=Je (P:=P) (cap:=c') R hlo hhi hi1 hj1 h0 h1 h2 g2
     refine bU (y:= .slice (some (if c'=i.toNat then ⟨b,o',none⟩ else (⟨b,o',none⟩:Addr).add (i.toNat*1))) (j.toNat-i.toNat) (c'-i.toNat)) (w':=w) ?_ R ?_
     ·simp only [execOp,hop,Instr.sliceAt,Sem.run_bind,run_underlying hu,Result.andThen_ok,Instr.slice,g1,Option.map_none,hb,jV hsz]
      split<;>simp_all
     ·refine .inr ?_
      by_cases hcc:c'=i.toNat
      ·rw [if_pos hcc]
       exact ⟨b,o',c'-i.toNat,by rw [hlen],by rw [hlen];omega,g3,g4,fun q hq=>by rw [hlen] at hq;omega⟩
      ·rw [if_neg hcc,Nat.mul_one,Addr.add_mid]
       refine ⟨b,o'+i.toNat,c'-i.toNat,by rw [hlen],by rw [hlen];omega,g3,g4,fun q hq=> ?_⟩
       rw [hlen] at hq
       rw [Nat.add_assoc,g5 (i.toNat+q) (by omega)]
       congr 2
       simp only [List.getD_eq_getElem?_getD,List.getElem?_drop,List.getElem?_take]
       rw [if_pos (by omega)]
   ·cases he
  ·cases he
 ·rename_i hl
  rw [hl] at hev
  split at he
  ·rename_i i j hi1 hj1
   split at he
   ·rename_i hc
    obtain ⟨h0,h1,h2⟩:=hc
    simp only [Option.some.injEq,Prod.mk.injEq] at he
    obtain ⟨rfl,rfl⟩:=he
    exact bU (y:= .slice none 0 0) (w':=w) (nil hev hi1 hj1 h0 h1 h2) R rfl
   ·cases he
  ·cases he
 ·rename_i t' n' len' hl
  rw [hl] at hev
  obtain ⟨hD,c',g1,g2,g3,g4⟩:=hev
  split at he
  ·rename_i i j hi1 hj1
   split at he
   ·rename_i hc
    obtain ⟨rfl,h1,h2⟩:=hc
    simp only [Option.some.injEq,Prod.mk.injEq] at he
    obtain ⟨rfl,rfl⟩:=he
    have hb:=Je (P:=P) (cap:=c') R hlo hhi hi1 hj1 (Int.le_refl _) h1 h2 g3
    refine bU (y:= .slice (some ⟨μ n',0,none⟩) j.toNat c') (w':=w) ?_ R ⟨hD,c',rfl,g2,by omega,g4⟩
    simp only [execOp,hop,Instr.sliceAt,Sem.run_bind,run_underlying hu,Result.andThen_ok,Instr.slice,g1,Option.map_none,hb,jV hsz]
    have e0:(0:Int).toNat=0:=rfl
    simp only [e0,Nat.zero_mul,Nat.sub_zero]
    split<;>simp_all [Addr.add_mid,own]
   ·cases he
  ·cases he
 ·cases he
theorem aCr {c:Call} {x:Operand} {y:SA} {t:TypeId} (R:Rel S0 w0 N μ s a w) (hop:o.op = .call c) (hcal:c.callee = .builtin .cap) (hargs:c.args = #[x]) (ht:c.argTypes[0]? = some t) (hel:(kL P t).isSome=true) (hx:aJ x y=true) (he:aC sp dst (.cap y) s=some (v,s')):Sound P S0 w0 N o s' v a w:=by
 have hev:=R.ev hx
 obtain ⟨e,hel⟩:=Option.isSome_iff_exists.1 hel
 have hu:=wJ hel
 simp only [aC] at he
 split at he
 ·rename_i e' hl
  rw [hl] at hev
  simp only [Option.some.injEq,Prod.mk.injEq] at he
  obtain ⟨rfl,rfl⟩:=he
  have hev:a.eval x = .slice none 0 0:=hev
  refine bU (y:= .int .i64 0) (w':=w) ?_ R ⟨rfl,rfl⟩
  simp [execOp,hop,resolve,hcal,hargs,invoke,builtin,Builtin.cap_,ht,hev,run_underlying hu,goInt]
 ·cases he
theorem Ns {L:aY} {L':aY} (hS:L'.S=L.S) : ∀ {aRR:List FC} {ys:List Value},aRR.all (·.Ia)=true->lP L w aRR ys->lP L' w aRR ys
 | [],[],_,_=>trivial
 | [],_::_,_,h=>h.elim
 | _::_,[],_,h=>h.elim
 | .q c::_,_::_,hf,h=>by
  simp only [List.all_cons,Bool.and_eq_true] at hf
  refine ⟨?_,Ns hS hf.2 h.2⟩
  show c.rep L'.S w _
  rw [hS]
  exact h.1
 | .p n off::_,_::_,hf,h=>by simp [FC.Ia] at hf
theorem Zi {L:aY} {c:AC} {y:Value} (hf:c.free=true) (h:c.rep L w y):c.rep ⟨L.S,fun _=>0,fun _=>False⟩ w y:=by
 cases c with
 | p n off=>cases hf
 | s t n len=>cases hf
 | v x=>exact h
 | k x=>exact h
 | r e l=>exact h
 | q m cs=>exact h
 | kq cs=>exact h
 | fn f caps=>obtain ⟨ys,h1,h2⟩:=h;exact ⟨ys,h1,Ns (L:=L) (L':=⟨L.S,fun _=>0,fun _=>False⟩) rfl hf h2⟩
 | ik k=>exact h
 | nil e=>exact h
 | u=>exact h
theorem C9 {S:Nat->Prop} {L:aY} {c:AC} {y:Value} (hS:L.S=S) (h:c.rep ⟨S,fun _=>0,fun _=>False⟩ w y):c.rep L w y:=by
 subst hS
 cases c with
 | p n off=>exact h.1.elim
 | s t n len=>exact h.1.elim
 | v x=>exact h
 | k x=>exact h
 | r e l=>exact h
 | q m cs=>exact h
 | kq cs=>exact h
 | fn f caps=>
  obtain ⟨ys,h1,h2⟩:=h
  refine ⟨ys,h1,?_⟩
  have key : ∀ {aRR:List FC} {ys:List Value},lP ⟨L.S,fun _=>0,fun _=>False⟩ w aRR ys->lP L w aRR ys:=by
   intro aRR
   induction aRR with
   | nil=>intro ys h2;cases ys with | nil=>trivial | cons _ _=>exact h2.elim
   | cons c aRR ih=>
    intro ys h2
    cases ys with
    | nil=>exact h2.elim
    | cons y ys=>
     cases c with
     | q c=>exact ⟨h2.1,ih h2.2⟩
     | p n off=>exact h2.1.1.elim
  exact key h2
 | ik k=>exact h
 | nil e=>exact h
 | u=>exact h
theorem J6 {L:aY} : ∀ {cs:List AC} {ys:List Value},cs.all (·.free)=true->bE L w cs ys->bE ⟨L.S,fun _=>0,fun _=>False⟩ w cs ys
 | [],[],_,_=>trivial
 | [],_::_,_,h=>h.elim
 | _::_,[],_,h=>h.elim
 | _::_,_::_,hf,h=>by
  simp only [List.all_cons,Bool.and_eq_true] at hf
  exact ⟨Zi hf.1 h.1,J6 hf.2 h.2⟩
theorem o7 {S:Nat->Prop} {L:aY} (hS:L.S=S) : ∀ {cs:List AC} {ys:List Value},bE ⟨S,fun _=>0,fun _=>False⟩ w cs ys->bE L w cs ys
 | [],[],_=>trivial
 | [],_::_,h=>h.elim
 | _::_,[],h=>h.elim
 | _::_,_::_,h=>⟨C9 hS h.1,o7 hS h.2⟩
theorem aFw {L:aY} {c:AP} {y:Value} (hf:c.free=true) (h:c.rep L w y):c.rep ⟨L.S,fun _=>0,fun _=>False⟩ w y:=by
 cases c with
 | c a=>exact Zi hf h
 | g cs=>obtain ⟨ys,h1,h2⟩:=h;exact ⟨ys,h1,J6 hf h2⟩
theorem T8 {S:Nat->Prop} {L:aY} (hS:L.S=S) {c:AP} {y:Value} (h:c.rep ⟨S,fun _=>0,fun _=>False⟩ w y):c.rep L w y:=by
 cases c with
 | c a=>exact C9 hS h
 | g cs=>obtain ⟨ys,h1,h2⟩:=h;exact ⟨ys,h1,o7 hS h2⟩
theorem Fg {L:aY} : ∀ {cs:List AP} {ys:List Value},cs.all (·.free)=true->cP L w cs ys->cP ⟨L.S,fun _=>0,fun _=>False⟩ w cs ys
 | [],[],_,_=>trivial
 | [],_::_,_,h=>h.elim
 | _::_,[],_,h=>h.elim
 | _::_,_::_,hf,h=>by
  simp only [List.all_cons,Bool.and_eq_true] at hf
  exact ⟨aFw hf.1 h.1,Fg hf.2 h.2⟩
theorem D5 {S:Nat->Prop} {L:aY} (hS:L.S=S) : ∀ {cs:List AP} {ys:List Value},cP ⟨S,fun _=>0,fun _=>False⟩ w cs ys->cP L w cs ys
 | [],[],_=>trivial
 | [],_::_,h=>h.elim
 | _::_,[],h=>h.elim
 | _::_,_::_,h=>⟨T8 hS h.1,D5 hS h.2⟩
theorem aDs {S:Nat->Prop} {L:aY} (hS:L.S=S) {c:AV} {y:Value} (h:c.rep ⟨S,fun _=>0,fun _=>False⟩ w y):c.rep L w y:=by
 cases c with
 | o a=>exact T8 hS h
 | t l=>obtain ⟨ys,h1,h2⟩:=h;exact ⟨ys,h1,D5 hS h2⟩
 | io a b l=>exact h.elim
theorem AC.Nj {L:aY} {c:AC} {y:Value} (h:c.rep L w y):c.wk.rep L w y:=by
 cases c with
 | nil e=>exact .inl ⟨h,rfl⟩
 | _=>exact h
theorem Yp {L:aY} : ∀ {cs:List AC} {ys:List Value},bE L w cs ys->bE L w (cs.map AC.wk) ys
 | [],[],_=>trivial
 | [],_::_,h=>h.elim
 | _::_,[],h=>h.elim
 | _::_,_::_,h=>⟨AC.Nj h.1,Yp h.2⟩
theorem AP.Nj {L:aY} {c:AP} {y:Value} (h:c.rep L w y):c.wk.rep L w y:=by
 cases c with
 | c a=>exact AC.Nj (c:=a) h
 | g cs=>obtain ⟨ys,h1,h2⟩:=h;exact ⟨ys,h1,Yp h2⟩
theorem Hm {L:aY} : ∀ {cs:List AP} {ys:List Value},cP L w cs ys->cP L w (cs.map AP.wk) ys
 | [],[],_=>trivial
 | [],_::_,h=>h.elim
 | _::_,[],h=>h.elim
 | _::_,_::_,h=>⟨AP.Nj h.1,Hm h.2⟩
theorem Hp (R:Rel S0 w0 N μ s a w) : ∀ (xs:List Operand) (ys:List SA) {aRR:List AP},eR xs ys=true->dC s ys=some aRR->cP (own S0 μ s.mem) w aRR (xs.map a.eval)
 | [],[],aRR,_,h=>by simp only [dC,Option.some.injEq] at h;subst h;trivial
 | [],_::_,_,h,_=>by cases h
 | _::_,[],_,h,_=>by cases h
 | x::xs,y::ys,aRR,h,he=>by
  simp only [eR,Bool.and_eq_true] at h
  simp only [dC] at he
  split at he
  ·rename_i b bs hb hbs
   cases he
   exact ⟨R.part h.1 hb,Hp R xs ys h.2 hbs⟩
  ·cases he
theorem aAE {f:Nat} {vs:List Value} {aRR:List AP} {r:AV} (hS0:Start S0 w0) (hsp:fA P sp) (R:Rel S0 w0 N μ s a w) (hres:(execOp a.eval o).run P w=(callFunc f vs.toArray).run P w)
 (hrep:cP ⟨(own S0 μ s.mem).S,fun _=>0,fun _=>False⟩ w aRR vs) (hr:sp f aRR=some r) (hfree:r.free=true):Sound P S0 w0 N o s r a w:=by
 rcases hsp f _ r hr with ⟨hent,-,hm⟩ | ⟨-,hin⟩ | ⟨_,t,d,rfl,_⟩ | ⟨_,_,_,_,_,_,_,_,rfl,_⟩
 ·intro K Q hK
  unfold Oper.wp
  rw [hres,hent]
  refine (hm (own S0 μ s.mem).S w _ (R.bd hS0) (hS0.Qf R.below) hrep).mono ?_
  rintro e w' ⟨y,rfl,hy,hb⟩
  exact hK μ y w' (R.Tz hb) (aDs rfl hy)
 ·obtain ⟨y,hy,hL⟩:=hin w vs (Kw (L:=⟨(own S0 μ s.mem).S,fun _=>0,fun _=>False⟩) (w:=w) ⟨fun n h=>h.elim,fun b _ _=>⟨rfl,fun h=>h⟩,Nat.le_refl _,fun n h=>h.elim⟩ hrep)
  exact bU (y:=y) (w':=w) (hres.trans hy) R (hL _ _)
 ·cases hfree
 ·cases hfree
theorem H3 {c:Call} {f:Nat} {args:List SA} (hS0:Start S0 w0) (hsp:fA P sp) (R:Rel S0 w0 N μ s a w) (hop:o.op = .call c) (hcal:c.callee = .value (.func f)) (hargs:eR c.args.toList args=true) (he:aC sp dst (.call f args) s=some (v,s')):Sound P S0 w0 N o s' v a w:=by
 simp only [aC] at he
 split at he
 ·rename_i aRR has
  split at he
  case isFalse=>cases he
  rename_i hf
  split at he
  ·rename_i r hr
   split at he
   case isFalse=>cases he
   rename_i hfree
   simp only [Option.some.injEq,Prod.mk.injEq] at he
   obtain ⟨rfl,rfl⟩:=he
   have hrep:=Hp R c.args.toList args hargs has
   have hres:(execOp a.eval o).run P w=(callFunc f (c.args.toList.map a.eval).toArray).run P w:=by
    have e:(c.args.toList.map a.eval).toArray=c.args.map a.eval:=by apply Array.ext';rw [Array.toList_map]
    rw [e]
    simp [execOp,hop,resolve,hcal,Act.eval,Deferred.ofValue,invoke]
   exact aAE hS0 hsp R hres (Hm (Fg hf hrep)) hr hfree
  ·cases he
 ·cases he
end
end Go.VC
namespace Go.VC
open Go.RowKit
section
variable {P:Program} {S0:Cx} {w0:World} {N:Nat} {μ : Nat->Nat} {s s':St} {a:Act} {w:World} {sp:Spec} {o:Oper} {v:AV} {K:Act->World->Prop} {Q:Exit->Act->World->Prop} {dst:Option Nat}
theorem aPN {c:Call} {x' y':SA} (R:Rel S0 w0 N μ s a w) (hop:o.op = .call c) (hcal:c.callee = .builtin .min) (hargs:eR c.args.toList [x',y']=true) (he:aC sp dst (.min x' y') s=some (v,s')):Sound P S0 w0 N o s' v a w:=by
 obtain ⟨x,y,hxy,hx,hy⟩ : ∃ x y,c.args = #[x,y]/\aJ x x'=true/\aJ y y'=true:=by
  match h:c.args.toList,hargs with
  | [x,y],hargs=>
   simp only [eR,Bool.and_eq_true] at hargs
   exact ⟨x,y,Array.ext' (by simpa using h),hargs.1,hargs.2.1⟩
  | [],hargs=>cases hargs
  | [x],hargs=>simp [eR] at hargs
  | x::y::z::l,hargs=>simp [eR] at hargs
 simp only [aC] at he
 split at he
 ·rename_i k p k' q hp hq
  simp only [Option.some.injEq,Prod.mk.injEq] at he
  obtain ⟨rfl,rfl⟩:=he
  refine bU (y:= .int k (if q<p then q else p)) (w':=w) ?_ R ⟨rfl,rfl⟩
  simp [execOp,hop,resolve,hcal,hxy,invoke,builtin,Builtin.min_,Builtin.min2,(R.val hx hp).1,(R.val hy hq).1]
 ·cases he
theorem Gw {t:TypeId} (h:nH P t=true):P.underlying t=some .string:=by
 unfold nH at h
 split at h
 ·assumption
 ·cases h
theorem aLq {p q el:TypeId} {x:Operand} {y:SA} (R:Rel S0 w0 N μ s a w) (hop:o.op = .convert p q x) (hel:kL P p=some el) (hk:rM P el=some .u8) (hq:nH P q=true) (hx:aJ x y=true) (he:aC sp dst (.str y) s=some (v,s')):Sound P S0 w0 N o s' v a w:=by
 simp only [aC] at he
 split at he
 ·rename_i l hl
  simp only [Option.some.injEq,Prod.mk.injEq] at he
  obtain ⟨rfl,rfl⟩:=he
  refine bU (y:= .string (strOfNums l)) (w':=w) ?_ R ⟨rfl,rfl⟩
  rcases R.row hx hl with ⟨h1,rfl⟩ | ⟨b,off,c,h1,h2,h3,h4,h5⟩
  ·have:=run_convert_bytes_nil (P:=P) (w:=w) p el (wJ hel) (Mm hk) 0 0 q (Gw hq)
   simp only [execOp,hop,h1,Sem.run_bind,this,Result.andThen_ok,Sem.run_pure]
   rfl
  ·have:=run_convert_bytes_arg_in (P:=P) (w:=w) (w':=w) (World.Extends.refl w) p el (wJ hel) (Mm hk) b off l.length c l rfl (fun i hi=>h5 i hi) q (Gw hq)
   simp only [execOp,hop,h1,Sem.run_bind,this,Result.andThen_ok,Sem.run_pure]
 ·cases he
theorem O4 {op:BinOp} {t:TypeId} {x y:Operand} {m n:ByteArray} : (eqGuard op t x y (.string m) (.string n)).run P w = .ok () w:=by
 unfold eqGuard
 split<;>simp
theorem aJY {op:BinOp} {t t':TypeId} {x y:Operand} {x' y':SA} {ne:Bool} (R:Rel S0 w0 N μ s a w) (hop:o.op = .binOp op t x y t') (ho:op=if ne then .neq else .eql) (hx:aJ x x'=true) (hy:aJ y y'=true) (he:aC sp dst (.nL ne x' y') s=some (v,s')):Sound P S0 w0 N o s' v a w:=by
 simp only [aC] at he
 split at he
 ·rename_i p q hp hq
  simp only [Option.some.injEq,Prod.mk.injEq] at he
  obtain ⟨rfl,rfl⟩:=he
  refine bU (y:= .bool (if ne then !(p.toList==q.toList) else p.toList==q.toList)) (w':=w) ?_ R ⟨rfl,rfl⟩
  simp only [execOp,hop,(R.val hx hp).1,(R.val hy hq).1,Sem.run_bind,O4,Result.andThen_ok]
  cases ne with
  | true=>simp only [if_true] at ho;subst ho;simp [binOp,Op.stringOp]
  | false=>simp only [Bool.false_eq_true,if_false] at ho;subst ho;simp [binOp,Op.stringOp]
 ·cases he
theorem Lp {ty:TypeId} {t:RT} (h:pI P ty t=true):P.underlying ty=some (.slice t.e)/\dH P t.e=some t.m/\0<t.m /\ ∃ i z,P.info? t.e=some i/\i.zero=some z/\i.size=t.m/\i.bytes<=128/\z.cells.size=t.m:=by
 unfold pI at h
 split at h
 ·rename_i e he
  simp only [Bool.and_eq_true,beq_iff_eq,decide_eq_true_eq] at h
  obtain ⟨⟨⟨rfl,h2⟩,h3⟩,h4⟩:=h
  refine ⟨wJ he,h2,h3,?_⟩
  split at h4
  ·rename_i i hi
   simp only [Bool.and_eq_true,decide_eq_true_eq] at h4
   obtain ⟨h5,h6⟩:=h4
   split at h6
   ·rename_i z hz
    refine ⟨i,z,hi,hz,?_,h5,by simpa using h6⟩
    simpa [dH,hi] using h2
   ·cases h6
  ·cases h4
 ·cases h
theorem Bp {b:Nat} {cur:Array Value} {T:TypeId} (h:w.heap[b]? = some (.cells cur T (0,0))):w.shape? b=some (T,cur.size):=by simp [World.shape?,h]
theorem aNf {ty:TypeId} {l c:Operand} {t:RT} {z:Value} {n:SA} (hS0:Start S0 w0) (hdn : ∀ n,dst=some n->S0.st n=none) (R:Rel S0 w0 N μ s a w) (hop:o.op = .makeSlice ty l c) (ht:pI P ty t=true) (hm:t.m=1) (hz:jE (xV P t.e 1) [.v z]=true) (hl:aJ l n=true) (hc:aJ c n=true) (he:aC sp dst (.rL t z n) s=some (v,s')):Sound P S0 w0 N o s' v a w:=by
 obtain ⟨hu,hsz,_,i,z',hi,hz',hisz,hby,hzs⟩:=Lp ht
 simp only [aC] at he
 split at he
 ·rename_i d k j hj
  split at he
  ·rename_i hd
   split at he
   ·rename_i hj0
    simp only [Option.some.injEq,Prod.mk.injEq] at he
    obtain ⟨rfl,rfl⟩:=he
    have e1:=(R.val hl hj).1
    have e2:=(R.val hc hj).1
    have hjn:((j.toNat:Nat):Int)=j:=by omega
    have hzc:z'.cells = #[z]:=by
     have hzz:(P.info? t.e).bind (·.zero)=some z':=by rw [hi];exact hz'
     unfold xV at hz
     rw [hzz] at hz
     simp only [List.range_succ,List.range_zero,List.nil_append,List.map_cons,List.map_nil,jE,Bool.and_eq_true] at hz
     have h0:_=z:=(Pz hz.1).1
     rw [hm] at hzs
     apply Array.ext (by simp [hzs])
     intro q h1 h2
     have:q=0:=by omega
     subst this
     rw [hzs] at h0
     simpa [h1] using h0
    have hz1:z.oneCell'=true:=by
     have hzz:(P.info? t.e).bind (·.zero)=some z':=by rw [hi];exact hz'
     unfold xV at hz
     rw [hzz] at hz
     simp only [List.range_succ,List.range_zero,List.nil_append,List.map_cons,List.map_nil,jE,Bool.and_eq_true] at hz
     obtain ⟨h1,h2⟩:=Pz hz.1
     rw [← h1];exact h2
    have hb1:i.bytes*j.toNat<=128*1000000000000:=Nat.mul_le_mul hby (by omega)
    obtain ⟨w',hrun,⟨hlen,hown⟩,hg⟩:=run_make_full (P:=P) w w.heap.size ty t.e i z' 1 hu hi hz' (by rw [hisz,hm]) k k j.toNat (by omega) (by simp only [maxLen];omega) (Nat.le_refl _)
    rcases hown with ⟨h,_⟩ | ⟨g,cap,cur,h,hbg,hblk,hn,hcm,hcs,htk⟩
    ·cases h
    ·simp only [Value.slice.injEq,Option.some.injEq,Addr.mk.injEq,and_true,true_and] at h
     obtain ⟨rfl,rfl⟩:=h
     have hcur:cur=(List.replicate j.toNat z).toArray:=by
      apply Array.ext'
      rw [List.take_of_length_le (by rw [Array.length_toList,hcs];omega)] at htk
      rw [htk,hzc,Nat.mul_one,toList_madeCells_one]
     have hrep:bE (own S0 μ s.mem) w (List.replicate j.toNat (.v z)) (List.replicate j.toNat z):=by
      generalize j.toNat=q
      induction q with
      | zero=>exact trivial
      | succ q ih=>rw [List.replicate_succ,List.replicate_succ];exact ⟨⟨rfl,hz1⟩,ih⟩
     have hbel:Below w.heap.size w w':=⟨hg.os,hg.tape,hg.output,hg.size,fun q hq=>hg.block q hq (by simp)⟩
     obtain ⟨R',hD,hμ⟩:=R.fresh hS0 (zs:= []) (T:=t.e) (b:=w.heap.size) hd (hdn d rfl) (Nat.le_refl _) (by rw [hblk,hcur];simp) hbel hrep
     refine bU (y:= .slice (some ⟨w.heap.size,0,none⟩) j.toNat j.toNat) (w':=w') ?_ R' ⟨hD,j.toNat,?_,?_,Nat.le_refl _,by simp only [maxLen];omega⟩
     ·rw [hjn] at hrun
      simp only [execOp,hop,e1,e2,Sem.run_bind,hrun,Result.andThen_ok,Sem.run_pure]
     ·show _=Value.slice (some ⟨aP μ d w.heap.size d,0,none⟩) _ _
      rw [hμ]
     ·show w'.shape? (aP μ d w.heap.size d)=_
      rw [hμ,Bp hblk,hcur,hm]
      simp
   ·cases he
  ·cases he
 ·cases he
theorem Rb {m:Nat} (R:Rel S0 w0 N μ s a w) :
 ∀ (ps:List (Nat×Operand)) (parts:List (Nat×Nat×SA)) (cs:List AC) (ys:List Value) {res:List AC},Aw m ps parts=true->bE (own S0 μ s.mem) w cs ys->eZ s cs parts=some res ->
  ∃ zs:List Value,Instr.fill (fun i=>some (i*m,m)) ys.toArray (ps.map fun x=>(x.1,a.eval x.2))=some zs.toArray/\bE (own S0 μ s.mem) w res zs
 | [],[],cs,ys,res,_,hr,hf=>by
  simp only [eZ,Option.some.injEq] at hf
  subst hf
  exact ⟨ys,rfl,hr⟩
 | [],_::_,_,_,_,h,_,_=>by cases h
 | _::_,[],_,_,_,h,_,_=>by cases h
 | (i,x)::ps,(off,size,y)::parts,cs,ys,res,h,hr,hf=>by
  simp only [Aw,Bool.and_eq_true,beq_iff_eq] at h
  obtain ⟨⟨⟨hoff,hsz⟩,h2⟩,h3⟩:=h
  subst hsz
  simp only [eZ] at hf
  split at hf
  ·rename_i ap hap
   split at hf
   ·rename_i hcond
    obtain ⟨hok,hc1,hc2⟩:=hcond
    have hrp:=AP.Nl (R.part h2 hap) hok
    have hl:=kP hr
    have hl2:=kP hrp
    have hcsz:(a.eval x).cells.size=size:=by rw [← hc1,hl2];simp
    obtain ⟨zs,hz,hrz⟩:=Rb R ps parts (kH cs off ap.cells) (ys.take off++(a.eval x).cells.toList++ys.drop (off+(a.eval x).cells.toList.length)) h3 (by
     unfold kH
     rw [hl2]
     exact vP (vP (oH _ hr) hrp) (wY _ hr)) hf
    refine ⟨zs,?_,hrz⟩
    simp only [List.map_cons,Instr.fill,hcsz]
    rw [← hoff,if_neg (by simp;rw [← hl];omega)]
    have e:=Ux (a.eval x).cells.toList ys off 0 (by simp;rw [hcsz,← hl];omega)
    rw [← hz]
    congr 1
    rw [← Array.foldl_toList,Array.toList_zipIdx]
    simpa using e
   ·cases hf
  ·cases hf
theorem aAn {ty:TypeId} {n:Nat} {ps:Array (Nat×Operand)} {t:RT} {z:List AC} {parts:List (Nat×Nat×SA)} (hS0:Start S0 w0) (hdn : ∀ n,dst=some n->S0.st n=none) (R:Rel S0 w0 N μ s a w) (hop:o.op = .buildSlice ty n ps) (ht:pI P ty t=true) (hsm:n*t.m<=16777216) (hz:jE (xV P t.e (n*t.m)) z=true) (hp:Aw t.m ps.toList parts=true)
 (he:aC sp dst (.fX t z n parts) s=some (v,s')):Sound P S0 w0 N o s' v a w:=by
 obtain ⟨hu,hsz,hpos,i,z',hi,hz',hisz,hby,hzs⟩:=Lp ht
 simp only [aC] at he
 split at he
 ·rename_i d cs hcs
  split at he
  ·rename_i hd
   simp only [Option.some.injEq,Prod.mk.injEq] at he
   obtain ⟨rfl,rfl⟩:=he
   have hzz:(P.info? t.e).bind (·.zero)=some z':=by rw [hi];exact hz'
   unfold xV at hz
   rw [hzz] at hz
   obtain ⟨zs,hfill,hr⟩:=Rb (m:=t.m) R ps.toList parts z _ hp (Hs hz) hcs
   have hlen:cs.length=n*t.m:=by
    have : ∀ (parts:List (Nat×Nat×SA)) (cs res:List AC),eZ s cs parts=some res->res.length=cs.length:=by
     intro parts
     induction parts with
     | nil=>intro cs res h;simp only [eZ,Option.some.injEq] at h;rw [h]
     | cons p parts ih=>
      intro cs res h
      obtain ⟨off,size,x⟩:=p
      simp only [eZ] at h
      split at h
      ·split at h
       ·rename_i hc
        rw [ih _ _ h]
        unfold kH
        simp only [List.length_append,List.length_take,List.length_drop]
        omega
       ·cases h
      ·cases h
    rw [this parts _ _ hcs]
    have hzl : ∀ (vs:List Value) (xs:List AC),jE vs xs=true->vs.length=xs.length:=by
     intro vs
     induction vs with
     | nil=>intro xs h;cases xs with | nil=>rfl | cons _ _=>cases h
     | cons q vs ih=>intro xs h;cases xs with | nil=>cases h | cons y xs=>simp only [jE,Bool.and_eq_true] at h;simp [ih _ h.2]
    have:=hzl _ _ hz
    rw [List.length_map,List.length_range] at this
    exact this.symm
   have hzl2:zs.length=n*t.m:=by rw [← kP hr,hlen]
   have hb:Below w.heap.size w (w.alloc (.cells zs.toArray t.e)):=⟨rfl,rfl,rfl,by simp,fun k hk=>heap_alloc_old w _ k hk⟩
   obtain ⟨R',hD,hμ⟩:=R.fresh hS0 (zs:= []) (T:=t.e) (b:=w.heap.size) hd (hdn d rfl) (Nat.le_refl _) (by rw [heap_alloc_new];simp) hb hr
   refine bU (y:= .slice (some ⟨w.heap.size,0,none⟩) n n) (w':=w.alloc (.cells zs.toArray t.e)) ?_ R' ⟨hD,n,?_,?_,Nat.le_refl _,?_⟩
   ·have e:(ps.map fun x=>(x.1,a.eval x.2)).toList=ps.toList.map fun x=>(x.1,a.eval x.2):=by simp
    by_cases h0:n*i.size=0
    ·have hn0:n=0:=by
      rw [hisz] at h0
      rcases Nat.mul_eq_zero.1 h0 with h | h
      ·exact h
      ·omega
     subst hn0
     have hf2:Instr.fill (fun j=>some (j*t.m,t.m)) #[] (ps.toList.map fun x=>(x.1,a.eval x.2))=some zs.toArray:=by simpa using hfill
     have hf3:Instr.fill (fun j=>some (j*i.size,i.size)) #[] (ps.map fun x=>(x.1,a.eval x.2)).toList=some zs.toArray:=by rw [e,hisz];exact hf2
     simp only [execOp,hop,Sem.run_bind]
     have hrun:(Instr.buildSlice ty 0 (ps.map fun x=>(x.1,a.eval x.2))).run P w = .ok (.slice (some ⟨w.heap.size,0,none⟩) 0 0) (w.alloc (.cells zs.toArray t.e)):=by
      have hr0 : ∀ f:Nat->Value,Array.map f (Array.range 0) = #[]:=fun f=>by simp
      simp only [Instr.buildSlice,Sem.run_bind,run_underlying hu,jV hsz,Result.andThen_ok,Nat.zero_mul,if_true,Sem.run_pure,hr0,newRow]
      rw [← hisz,hf3]
      simp
     have:=hrun
     simp only [this,Result.andThen_ok,Sem.run_pure]
    ·have hf3:Instr.fill (fun j=>some (j*i.size,i.size)) ((Array.range (n*i.size)).map (z'.cells[· % z'.cells.size]!)) (ps.map fun x=>(x.1,a.eval x.2)).toList=some zs.toArray:=by
      rw [e,hisz]
      have:(Array.range (n*t.m)).map (z'.cells[· % z'.cells.size]!)=((List.range (n*t.m)).map (fun i=>z'.cells[i%z'.cells.size]!)).toArray:=by
       apply Array.ext'
       simp
      rw [this]
      exact hfill
     have hrun:=run_buildSlice (P:=P) w ty t.e n (ps.map fun x=>(x.1,a.eval x.2)) zs.toArray i z' hu hi hz' (by rw [hisz];omega) h0 hf3
     simp only [execOp,hop,Sem.run_bind,hrun,Result.andThen_ok,Sem.run_pure]
   ·show _=Value.slice (some ⟨aP μ d w.heap.size d,0,none⟩) _ _
    rw [hμ]
   ·show (w.alloc _).shape? (aP μ d w.heap.size d)=_
    rw [hμ,Bp (heap_alloc_new w _)]
    simp [hzl2]
   ·have:n<=n*t.m:=Nat.le_mul_of_pos_right n hpos
    simp only [maxLen];omega
  ·cases he
 ·cases he
end
end Go.VC
namespace Go.VC
open Go.RowKit
section
variable {P:Program} {S0:Cx} {w0:World} {N:Nat} {μ : Nat->Nat} {s s':St} {a:Act} {w:World} {sp:Spec} {o:Oper} {v:AV} {K:Act->World->Prop} {Q:Exit->Act->World->Prop} {dst:Option Nat}
theorem aHT (base:Nat) (t ty e:TypeId) (i:TypeInfo) (z:Value) (size bytes:Nat) (ht:P.underlying t=some (.slice e)) (hi:P.info? e=some i) (hz:i.zero=some z)
 (hsize:i.size=size) (hby:i.bytes=bytes) (hzs:z.cells.size=size) (hsz:0<size)
 (v:Value) (n:Nat) (xs:List Value) (hown:w.ownsRow base e size v n xs)
 (ad:Addr) (m c:Nat) (news:List Value) (hl:news.length=m*size) (hnews : ∀ j u,news[j]? = some u->w.cell? (ad.add j)=some u) (h1 : ∀ u∈news,u.oneCell'=true)
 (h63:n+m<=maxLen) (hbytes:(n+m)*bytes<=140737488355328) (hbase:base<=w.heap.size) (h0:v = .slice none 0 0->0<m) :
 ∃ g cap cur w',(Builtin.append_ #[t,t] ty #[v,.slice (some ad) m c]).run P w = .ok (.slice (some ⟨g,0,none⟩) (n+m) cap) w'/\(w.heap.size<=g∨v.ownBlock=some g)/\base<=g /\
  w'.heap[g]? = some (.cells cur e (0,0))/\n+m<=cap/\cap<=maxLen/\cur.size=cap*size/\cur.toList.take ((n+m)*size)=xs++news/\w.grownBy w' (some g)/\(g<w.heap.size->w'.shape? g=w.shape? g):=by
 have weak : ∀ {w':World} {row:Option Nat},w.grownBy w' row -> ∀ g,(∀ k,row=some k->k=g)->w.grownBy w' (some g):=fun hg g h=>⟨hg.os,hg.tape,hg.output,hg.size,fun k hk hne=>hg.block k hk (fun e=>hne (by rw [h k e.symm]))⟩
 rcases hown.2 with ⟨hv,hn⟩ | ⟨g,cap,cur,hv,hbg,hg,hnc,hcm,hcs,htk⟩
 ·have hown':w.ownsRow w.heap.size e size v n xs:=⟨hown.1,.inl ⟨hv,hn⟩⟩
  obtain ⟨v',w',hrun,hown2,hgr,hnil⟩:=run_append_own (P:=P) w w.heap.size t ty e i z size bytes ht hi hz hsize hby hzs hsz v n xs hown' ad m c news hl hnews h1 h63 hbytes (Nat.le_refl _)
  rcases hown2.2 with ⟨hv',_⟩ | ⟨g,cap,cur,hv',hbg,hg,hnc,hcm,hcs,htk⟩
  ·have:=(hnil.1 hv').2;have:=h0 hv;omega
  ·refine ⟨g,cap,cur,w',by rw [hrun,hv'],.inl hbg,Nat.le_trans hbase hbg,hg,hnc,hcm,hcs,htk,weak hgr g (fun k hk=> ?_),fun hlt=>absurd hbg (by omega)⟩
   rw [hv] at hk;cases hk
 ·by_cases hroom:n+m<=cap
  ·subst hv
   obtain ⟨w',hrun,hown2,hgr⟩:=run_append_fits (P:=P) w base t ty e i size ht hi hsize g n cap xs hown ad m c news hl hnews h1 hroom
   rcases hown2.2 with ⟨hv',_⟩ | ⟨g',cap',cur',hv',hbg',hg',hnc',hcm',hcs',htk'⟩
   ·cases hv'
   ·simp only [Value.slice.injEq,Option.some.injEq,Addr.mk.injEq,and_true,true_and] at hv'
    obtain ⟨rfl,rfl⟩:=hv'
    exact ⟨g,cap,cur',w',hrun,.inr rfl,hbg,hg',hroom,hcm,hcs',htk',hgr,fun _=>by simp [World.shape?,hg',hg,hcs',hcs]⟩
  ·subst hv
   have holds : ∀ j u,xs[j]? = some u->w.cell? ((⟨g,0,none⟩:Addr).add j)=some u:=hown.cells (g:=g) rfl
   have hsmall:n+m<=0x7fffffffffffffff:=by simp only [maxLen] at h63;omega
   have hrun:=run_append_grow (P:=P) w t ty e i z ht hi hz ⟨g,0,none⟩ n cap xs (by rw [hsize];exact hown.1) holds ad m c news (by rw [hsize];exact hl) hnews (by omega) (by omega) (by rw [hby];exact growslice_fits (by omega) hbytes)
   have hge:=grownCap_ge w (n+m) cap e
   have hlen:(xs++news).length=(n+m)*size:=by rw [List.length_append,hown.1,hl,Nat.add_mul]
   refine ⟨w.heap.size,_,_,_,hrun,.inl (Nat.le_refl _),hbase,heap_alloc_new w.drew _,hge,grownCap_le_maxLen w (n+m) cap e h63,?_,?_,⟨rfl,rfl,rfl,by simp,fun k hk _=>heap_alloc_old w.drew _ k hk⟩,fun hlt=>absurd hlt (by omega)⟩
   ·simp only [Array.size_append,List.size_toArray,size_zeroCells,hzs,hown.1,hl,← Nat.add_mul]
    congr 1
    omega
   ·simp only [Array.toList_append,List.append_assoc]
    rw [← List.append_assoc,← hlen]
    exact List.take_left
theorem aO2 (R:Rel S0 w0 N μ s a w) {x:Operand} {y:SA} (h:aJ x y=true) {t:RT} {ns:List Nat} {n:Nat} {xs:List AC} (ho:fY t s (y.ev s)=some (ns,n,xs)) :
 ∃ xv:List Value,w.ownsRow w0.heap.size t.e t.m (a.eval x) n xv/\bE (own S0 μ s.mem) w xs xv/\((ns = []/\n=0/\a.eval x = .slice none 0 0) ∨ ∃ q,ns = [q]/\s.mem q≠none/\q<1000/\(a.eval x).ownBlock=some (μ q)/\a.eval x ≠ .slice none 0 0):=by
 have hev:=R.ev h
 unfold fY at ho
 split at ho
 ·rename_i t' q len hy
  rw [hy] at hev
  obtain ⟨hD,cap,h1,h2,h3,h4⟩:=hev
  split at ho
  ·rename_i cs hcs
   split at ho
   ·rename_i hc
    obtain ⟨he,hm,hlen,hq⟩:=hc
    simp only [Option.some.injEq,Prod.mk.injEq] at ho
    obtain ⟨rfl,rfl,rfl⟩:=ho
    have hge:=R.ge q hq (by rw [hcs];simp)
    obtain ⟨-,ys,zs,T,hb,hr⟩:=R.mem q cs hcs
    have hl:=kP hr
    have hsh:w.shape? (μ q)=some (t'.e,cap*t'.m):=h2
    rw [Bp hb] at hsh
    simp only [Option.some.injEq,Prod.mk.injEq] at hsh
    obtain ⟨rfl,hcap⟩:=hsh
    rw [hm] at hcap
    refine ⟨ys.take (len*t.m),⟨by rw [List.length_take];omega,.inr ⟨μ q,cap,(ys++zs).toArray,h1,hge,by rw [hb,he],h3,h4,hcap,?_⟩⟩,oH _ hr,.inr ⟨q,rfl,hD,hq,by rw [h1];rfl,by rw [h1];simp⟩⟩
    simp only [List.toList_toArray]
    rw [List.take_append_of_le_length (by omega)]
   ·cases ho
  ·cases ho
 ·rename_i hy
  rw [hy] at hev
  simp only [Option.some.injEq,Prod.mk.injEq] at ho
  obtain ⟨rfl,rfl,rfl⟩:=ho
  exact ⟨[],⟨by simp,.inl ⟨hev,rfl⟩⟩,trivial,.inl ⟨rfl,rfl,hev⟩⟩
 ·cases ho
theorem aDj (R:Rel S0 w0 N μ s a w) {x:Operand} {y:SA} (h:aJ x y=true) {m:Nat} {ns:List Nat} {n:Nat} {xs:List AC} (ho:fE m s (y.ev s)=some (ns,n,xs)) :
 ∃ xv:List Value,bE (own S0 μ s.mem) w xs xv/\xv.length=n*m/\((a.eval x = .slice none 0 0/\n=0) ∨ ∃ ad c,a.eval x = .slice (some ad) n c /\ ∀ j u,xv[j]? = some u->w.cell? (ad.add j)=some u):=by
 have hev:=R.ev h
 unfold fE at ho
 split at ho
 ·rename_i t q len hy
  rw [hy] at hev
  obtain ⟨hD,cap,h1,h2,h3,h4⟩:=hev
  split at ho
  ·rename_i cs hcs
   split at ho
   ·rename_i hc
    obtain ⟨hm,hlen⟩:=hc
    simp only [Option.some.injEq,Prod.mk.injEq] at ho
    obtain ⟨rfl,rfl,rfl⟩:=ho
    obtain ⟨hge,ys,zs,T,hb,hr⟩:=R.mem q cs hcs
    have hl:=kP hr
    refine ⟨ys.take (len*m),oH _ hr,by rw [List.length_take];omega,.inr ⟨_,_,h1,fun j u hj=> ?_⟩⟩
    rw [Addr.add_mid,Nat.zero_add]
    rw [List.getElem?_take] at hj
    split at hj
    ·exact zC hb hj
    ·cases hj
   ·cases ho
  ·cases ho
 ·rename_i e l hy
  rw [hy] at hev
  split at ho
  ·rename_i hm
   subst hm
   simp only [Option.some.injEq,Prod.mk.injEq] at ho
   obtain ⟨rfl,rfl,rfl⟩:=ho
   have hrep : ∀ l:List Int,bE (own S0 μ s.mem) w (l.map fun x=>AC.v (.int e x)) (l.map (.int e)):=fun l=>by
    induction l with
    | nil=>trivial
    | cons z l ih=>exact ⟨⟨rfl,rfl⟩,ih⟩
   refine ⟨l.map (.int e),hrep l,by simp,?_⟩
   rcases hev with ⟨h1,rfl⟩ | ⟨b,o',c,h1,h2,h3,h4,h5⟩
   ·exact .inl ⟨h1,rfl⟩
   ·refine .inr ⟨_,_,h1,fun j u hj=> ?_⟩
    rw [Addr.add_mid]
    have hlt:j<l.length:=by
     rcases Nat.lt_or_ge j l.length with h | h
     ·exact h
     ·rw [List.getElem?_eq_none (by simpa using h)] at hj;cases hj
    rw [h5 j hlt]
    simp [List.getElem?_eq_getElem hlt] at hj
    rw [← hj]
    simp [List.getD_eq_getElem?_getD,List.getElem?_eq_getElem hlt]
  ·cases ho
 ·rename_i m' cs hy
  rw [hy] at hev
  split at ho
  ·rename_i hc
   obtain ⟨rfl,hpos⟩:=hc
   simp only [Option.some.injEq,Prod.mk.injEq] at ho
   obtain ⟨rfl,rfl,rfl⟩:=ho
   rcases hev with ⟨h1,rfl⟩ | ⟨b,o',k,c,h1,h2,h3,h4,h5,h6⟩
   ·exact ⟨[],trivial,by simp,.inl ⟨h1,by simp⟩⟩
   ·obtain ⟨ys,g1,g2⟩:=Ss (L:=own S0 μ s.mem) cs o' h6
    have hk:cs.length/m'=k:=by rw [h2,Nat.mul_div_cancel _ hpos]
    refine ⟨ys,g1,by rw [hk,← h2,← kP g1,List.length_map],.inr ⟨_,c,by rw [hk];exact h1,fun j u hj=> ?_⟩⟩
    rw [Addr.add_mid]
    exact g2 j u hj
  ·cases ho
 ·rename_i hy
  rw [hy] at hev
  simp only [Option.some.injEq,Prod.mk.injEq] at ho
  obtain ⟨rfl,rfl,rfl⟩:=ho
  exact ⟨[],trivial,by simp,.inl ⟨hev,rfl⟩⟩
 ·cases ho
theorem aHp {c:Call} {t1:TypeId} {t:RT} {x' y':SA} (hS0:Start S0 w0) (hdn : ∀ n,dst=some n->S0.st n=none) (R:Rel S0 w0 N μ s a w) (hop:o.op = .call c) (hcal:c.callee = .builtin .append) (htys:c.argTypes = #[t1,t1]) (ht:pI P t1 t=true) (hargs:eR c.args.toList [x',y']=true) (he:aC sp dst (.app t x' y') s=some (v,s')):Sound P S0 w0 N o s' v a w:=by
 obtain ⟨x,y,hxy,hx,hy⟩ : ∃ x y,c.args = #[x,y]/\aJ x x'=true/\aJ y y'=true:=by
  match h:c.args.toList,hargs with
  | [x,y],hargs=>
   simp only [eR,Bool.and_eq_true] at hargs
   exact ⟨x,y,Array.ext' (by simpa using h),hargs.1,hargs.2.1⟩
  | [],hargs=>cases hargs
  | [x],hargs=>simp [eR] at hargs
  | x::y::z::l,hargs=>simp [eR] at hargs
 obtain ⟨hu,hsz,hpos,i,z,hi,hz,hisz,hby,hzs⟩:=Lp ht
 simp only [aC] at he
 split at he
 ·rename_i d ns na xs ms nb ys ho hl
  split at he
  ·rename_i hc
   obtain ⟨hc1,hc2,hc3,hc4⟩:=hc
   simp only [Option.some.injEq,Prod.mk.injEq] at he
   obtain ⟨rfl,rfl⟩:=he
   obtain ⟨xv,hown,hrx,hns⟩:=aO2 R hx ho
   obtain ⟨yv,hry,hylen,hyv⟩:=aDj R hy hl
   have hexec : ∀ {r:Value} {w':World},(Builtin.append_ #[t1,t1] o.type #[a.eval x,a.eval y]).run P w = .ok r w'->(execOp a.eval o).run P w = .ok (.value r) w':=fun h=>by
    simp only [execOp,hop,resolve,hcal,hxy,htys,invoke,builtin,Sem.run_bind,Sem.run_pure,Result.andThen_ok,List.map_toArray,List.map_cons,List.map_nil,h]
   have hones:=Xj hc4 hry
   rcases hyv with ⟨hy0,hnb⟩ | ⟨ad,cp,hy0,hcell⟩
   ·
    subst hnb
    have hnsne:ns ≠ []:=fun e=>by have:=hc1 e;omega
    rcases hns with ⟨h,_⟩ | ⟨q,rfl,hq,_,hblk,hnn⟩
    ·exact absurd h hnsne
    have hyv0:yv = []:=List.eq_nil_of_length_eq_zero (by omega)
    subst hyv0
    have hrun:=run_append_owned_none (P:=P) w w0.heap.size t1 o.type t.e i t.m hu hi (a.eval x) na xv hown
    rcases hown.2 with ⟨h,_⟩ | ⟨g,cap,cur,hv,hbg,hg,hnc,hcm,hcs,htk⟩
    ·exact absurd h hnn
    have hgq:g = μ q:=by rw [hv] at hblk;simpa [Value.ownBlock] using hblk
    subst hgq
    obtain ⟨R',hD,hμ⟩:=R.turn hS0 (ns:= [q]++ms) (d:=d) (b:= μ q) (cs:=xs++ys) (ys:=xv ++ []) (zs:=cur.toList.drop (na*t.m)) (T:=t.e) (w':=w) hc3 (hdn d rfl) hbg (.inr ⟨q,by simp,hq,rfl⟩)
     (by rw [hg,List.append_nil,← htk,List.take_append_drop]) (fun _ _ _=>rfl) (Nat.le_refl _) R.below (vP hrx hry)
    refine bU (y:=a.eval x) (w':=w) (hexec (by rw [hy0];exact hrun)) R' ⟨hD,cap,?_,?_,hnc,hcm⟩
    ·show _=Value.slice (some ⟨aP μ d (μ q) d,0,none⟩) _ _
     rw [hμ];exact hv
    ·show w.shape? (aP μ d (μ q) d)=_
     rw [hμ,Bp hg,hcs]
   ·have h0:a.eval x = .slice none 0 0->0<nb:=fun h=>by
     rcases hns with ⟨h',_⟩ | ⟨q,_,_,_,_,hnn⟩
     ·exact hc1 h'
     ·exact absurd h hnn
    have hbb:(na+nb)*i.bytes<=1000000000000*128:=Nat.mul_le_mul hc2 hby
    obtain ⟨g,cap,cur,w',hrun,hgb,hbg,hg,hnc,hcm,hcs,htk,hgr,hshp⟩:=aHT (P:=P) w0.heap.size t1 o.type t.e i z t.m i.bytes hu hi hz hisz rfl hzs hpos (a.eval x) na xv hown ad nb cp yv hylen hcell hones
     (by simp only [maxLen];omega) (by omega) R.below.size h0
    obtain ⟨R',hD,hμ⟩:=R.turn hS0 (ns:=ns++ms) (d:=d) (b:=g) (cs:=xs++ys) (ys:=xv++yv) (zs:=cur.toList.drop ((na+nb)*t.m)) (T:=t.e) (w':=w') hc3 (hdn d rfl) hbg
     (by
      rcases hgb with h | h
      ·exact .inl h
      ·right
       rcases hns with ⟨_,_,hn0⟩ | ⟨q,rfl,hq,_,hblk,_⟩
       ·rw [hn0] at h;cases h
       ·rw [hblk] at h
        exact ⟨q,by simp,hq,by simpa using h⟩)
     (by rw [hg,← htk,List.take_append_drop]) (fun k hk hne=>hgr.block k hk (by simpa using hne)) hgr.size
     (R.below.one (.inl hbg) hgr.os hgr.tape hgr.output hgr.size (fun k hk hne=>hgr.block k hk (by simpa using hne)) (fun k hk=>by
      by_cases hkg:k=g
      ·subst hkg;exact hshp hk
      ·unfold World.shape?;rw [hgr.block k hk (by simpa using hkg)]))
     (vP hrx hry)
    refine bU (w':=w') (hexec (by rw [hy0];exact hrun)) R' ⟨hD,cap,?_,?_,hnc,hcm⟩
    ·show _=Value.slice (some ⟨aP μ d g d,0,none⟩) _ _
     rw [hμ]
    ·show w'.shape? (aP μ d g d)=_
     rw [hμ,Bp hg,hcs]
  ·cases he
 ·cases he
theorem aRq (t ti ty e:TypeId) (i:TypeInfo) (z:Value) (ht:P.underlying t=some (.slice e)) (hti:P.underlying ti=some (.int .i64)) (hi:P.info? e=some i) (hz:i.zero=some z) (hzs:z.cells.size=i.size) (hsz:0<i.size) (hby:i.bytes<=128)
 (m:Nat) (h0:0<m) (hm:m<=1000000000) :
 ∃ cur,(Builtin.append_ #[t,ti] ty #[.slice none 0 0,.int .i64 (m:Int)]).run P w = .ok (.slice (some ⟨w.heap.size,0,none⟩) m (grownCap w m 0 e)) (w.drew.alloc (.cells cur e))/\cur.size=grownCap w m 0 e*i.size:=by
 have hge:=grownCap_ge w m 0 e
 refine ⟨Builtin.zeroCells z.cells m++Builtin.zeroCells z.cells (grownCap w m 0 e-m),?_,?_⟩
 ·have e1:IntKind.i64.wrap (m:Int)=m:=by rw [IntKind.wrap_i64];omega
  have h48 : ¬ (281474976710656<(m:Int)*(i.bytes:Int)):=by
   have:(m:Int)*(i.bytes:Int)<=1000000000*128:=Int.mul_le_mul (by omega) (by omega) (by omega) (by decide)
   omega
  have h48' : ¬ (281474976710656<Builtin.nextslicecap m 0*i.bytes):=by
   rw [nextslicecap_zero h0]
   have:m*i.bytes<=1000000000*128:=Nat.mul_le_mul hm hby
   omega
  have h2 : ¬ ((m:Int)<0):=by omega
  have h3:m≠0:=by omega
  have h4 : ¬ (0x7fffffffffffffff<(m:Int)):=by omega
  have h5 : ¬ m*i.size=0:=by
   have:=Nat.mul_pos h0 hsz;omega
  have h6:i.size≠0:=by omega
  simp [Builtin.append_,run_underlying ht,run_underlying hti,sizeOf,typeInfo,zeroValue,hi,hz,Builtin.lenOf,Builtin.firstCells,asInt,asIntOf,e1,h48,h48',h2,h3,h4,h5,h6,Question.forced,newRow,grownCap]
 ·rw [Array.size_append,size_zeroCells,size_zeroCells,hzs,← Nat.add_mul]
  congr 1
  omega
theorem aMt {c:Call} {t1 t2:TypeId} {t:RT} {x' y':SA} (hS0:Start S0 w0) (hdn : ∀ n,dst=some n->S0.st n=none) (R:Rel S0 w0 N μ s a w) (hop:o.op = .call c) (hcal:c.callee = .builtin .append) (htys:c.argTypes = #[t1,t2]) (ht:pI P t1 t=true) (hk:rM P t2=some .i64) (hargs:eR c.args.toList [x',y']=true) (he:aC sp dst (.Bl t x' y') s=some (v,s')):Sound P S0 w0 N o s' v a w:=by
 obtain ⟨x,y,hxy,hx,hy⟩ : ∃ x y,c.args = #[x,y]/\aJ x x'=true/\aJ y y'=true:=by
  match h:c.args.toList,hargs with
  | [x,y],hargs=>
   simp only [eR,Bool.and_eq_true] at hargs
   exact ⟨x,y,Array.ext' (by simpa using h),hargs.1,hargs.2.1⟩
  | [],hargs=>cases hargs
  | [x],hargs=>simp [eR] at hargs
  | x::y::z::l,hargs=>simp [eR] at hargs
 obtain ⟨hu,hsz,hpos,i,z,hi,hz,hisz,hby,hzs⟩:=Lp ht
 have hti:P.underlying t2=some (.int .i64):=by
  unfold rM at hk
  split at hk
  ·rename_i k hk';cases hk;exact hk'
  ·cases hk
 simp only [aC] at he
 split at he
 ·rename_i d e' m hxe hye
  split at he
  ·rename_i hd
   split at he
   ·rename_i hc
    simp only [Option.some.injEq,Prod.mk.injEq] at he
    obtain ⟨rfl,rfl⟩:=he
    have hev:=R.ev hx
    rw [hxe] at hev
    have hev:a.eval x = .slice none 0 0:=hev
    have hey:a.eval y = .int .i64 m:=(R.val hy hye).1
    obtain ⟨cur,hrun,hcs⟩:=aRq (P:=P) (w:=w) t1 t2 o.type t.e i z hu hti hi hz (by rw [hzs,hisz]) (by omega) hby m.toNat (by omega) (by omega)
    have hm:((m.toNat:Nat):Int)=m:=by omega
    rw [hm] at hrun
    have hbel:Below w.heap.size w (w.drew.alloc (.cells cur t.e)):=⟨rfl,rfl,rfl,by simp,fun k hk=>heap_alloc_old w.drew _ k hk⟩
    obtain ⟨R',hD,hμ⟩:=R.fresh hS0 (cs:= []) (ys:= []) (zs:=cur.toList) (T:=t.e) (b:=w.heap.size) hd (hdn d rfl) (Nat.le_refl _) (by simp only [List.nil_append,Array.toArray_toList];exact heap_alloc_new w.drew _) hbel trivial
    refine bU (y:= .slice (some ⟨w.heap.size,0,none⟩) m.toNat (grownCap w m.toNat 0 t.e)) ?_ R' ⟨hD,grownCap w m.toNat 0 t.e,?_,?_,grownCap_ge w m.toNat 0 t.e,grownCap_le_maxLen w m.toNat 0 t.e (by simp only [maxLen];omega)⟩
    ·simp only [execOp,hop,resolve,hcal,hxy,htys,invoke,builtin,Sem.run_bind,Sem.run_pure,Result.andThen_ok,List.map_toArray,List.map_cons,List.map_nil,hev,hey,hrun]
    ·show _=Value.slice (some ⟨aP μ d w.heap.size d,0,none⟩) _ _
     rw [hμ]
    ·show World.shape? _ (aP μ d w.heap.size d)=_
     have hb:(w.drew.alloc (.cells cur t.e)).heap[w.heap.size]? = some (.cells cur t.e (0,0)):=heap_alloc_new w.drew _
     rw [hμ,Bp hb,hcs,hisz]
   ·cases he
  ·cases he
 ·cases he
end
end Go.VC
namespace Go.VC
open Go.RowKit
section
variable {P:Program} {S0:Cx} {w0:World} {N:Nat} {μ : Nat->Nat} {s s':St} {a:Act} {w:World} {sp:Spec} {o:Oper} {v:AV} {K:Act->World->Prop} {Q:Exit->Act->World->Prop} {dst:Option Nat}
theorem Zd {L:aY} {k:IntKind} : ∀ {cs:List AC} {ys:List Value} {l:List Int},rQ k cs=some l->bE L w cs ys->ys=l.map (.int k)
 | [],[],l,h,_=>by simp only [rQ,Option.some.injEq] at h;subst h;rfl
 | [],_::_,_,_,hr=>hr.elim
 | _::_,[],_,_,hr=>hr.elim
 | c::cs,y::ys,l,h,hr=>by
  unfold rQ at h
  split at h
  ·rename_i heq;cases heq
  ·rename_i k' x cs' heq
   cases heq
   split at h
   ·rename_i hk
    subst hk
    split at h
    ·rename_i l' hl
     cases h
     rw [Zd hl hr.2]
     have:=hr.1.1
     rw [this];rfl
    ·cases h
   ·cases h
  ·cases h
theorem Qi {L:aY} : ∀ {cs:List AC} {ys:List Value} {l:List QC},pL cs=some l->bE L w cs ys->l.length=cs.length /\ ∀ (j:Nat) (c:QC),l[j]? = some c -> ∃ y,ys[j]? = some y/\c.rep L.S w y
 | [],[],l,h,_=>by simp only [pL,Option.some.injEq] at h;subst h;exact ⟨rfl,fun j c hj=>by simp at hj⟩
 | [],_::_,_,_,hr=>hr.elim
 | _::_,[],_,_,hr=>hr.elim
 | c::cs,y::ys,l,h,hr=>by
  unfold pL at h
  split at h
  ·rename_i heq;cases heq
  ·rename_i x cs' heq
   cases heq
   split at h
   ·rename_i l' hl
    cases h
    obtain ⟨h1,h2⟩:=Qi hl hr.2
    refine ⟨by simp [h1],fun j c hj=> ?_⟩
    cases j with
    | zero=>simp at hj;subst hj;exact ⟨y,rfl,hr.1⟩
    | succ j=>simpa using h2 j c (by simpa using hj)
   ·cases h
  ·rename_i e l0 cs' heq
   cases heq
   split at h
   ·rename_i l' hl
    cases h
    obtain ⟨h1,h2⟩:=Qi hl hr.2
    refine ⟨by simp [h1],fun j c hj=> ?_⟩
    cases j with
    | zero=>simp at hj;subst hj;exact ⟨y,rfl,hr.1⟩
    | succ j=>simpa using h2 j c (by simpa using hj)
   ·cases h
  ·cases h
theorem aMp {S:Nat->Prop} : ∀ {cs:List QC} {l:List Value},mB cs=some l->cs=l.map .v:=by
 intro cs
 induction cs with
 | nil=>intro l h;simp only [mB,Option.some.injEq] at h;subst h;rfl
 | cons c cs ih=>
  intro l h
  cases c with
  | v x=>
   simp only [mB] at h
   split at h
   ·rename_i l' hl'
    simp only [Option.some.injEq] at h
    subst h
    rw [ih hl'];rfl
   ·cases h
  | r e l'=>simp [mB] at h
  | qv m l'=>simp [mB] at h
  | kv x=>simp [mB] at h
  | pN m l'=>simp [mB] at h
theorem Wx {L:aY} {c:AC} {q:QC} {y:Value} (hq:c.qc=some q) (h:c.rep L w y):q.rep L.S w y:=by
 unfold AC.qc at hq
 split at hq
 ·cases hq;exact h
 ·cases hq;exact h
 ·split at hq
  ·rename_i l hl
   cases hq
   have:=aMp (S:=L.S) hl
   subst this
   rcases h with ⟨h1,h2⟩ | ⟨b,o,n,c,h1,h2,h3,h4,h5,h6⟩
   ·exact .inl ⟨h1,by simpa using h2⟩
   ·refine .inr ⟨b,o,n,c,h1,by simpa using h2,h3,h4,h5,fun j x hj=> ?_⟩
    obtain ⟨u,g1,g2⟩:=h6 j (.v x) (by rw [List.getElem?_map,hj];rfl)
    obtain ⟨rfl,g3⟩:=g2
    exact ⟨g1,g3⟩
  ·cases hq
 ·cases hq
structure rO (n:Nat) (L:aY) (L':aY):Prop where
 D : ∀ m,m≠n->L.D m->L'.D m
 μ : L'.μ = L.μ
 S : ∀ b,L'.S b->L.S b
 not : ¬ L'.S (L.μ n)
section
variable {n:Nat} {L L':aY} {cs:List AC} {ys zs:List Value} {T:TypeId}
theorem rO.e (h:rO n L L'):Ext ⟨L.S,L.μ,fun _=>False⟩ w ⟨L'.S,L'.μ,fun _=>False⟩ w:=
 ⟨fun n h=>h.elim,fun b hb _=>⟨rfl,fun h'=>hb (h.S b h')⟩,Nat.le_refl _,fun n h=>h.elim⟩
theorem aCv (h:rO n L L') (hb:w.heap[L.μ n]? = some (.cells (ys++zs).toArray T (0,0))) (hr:bE L w cs ys) {t:RT} {len cap:Nat} (hlt:L.μ n<w.heap.size) (hcap:len<=cap):(fS t len cs).rep L' w (.slice (some ⟨L.μ n,0,none⟩) len cap):=by
 have hl:=kP hr
 unfold fS
 split
 ·rename_i hle
  split
  ·rename_i k hk
   split
   ·rename_i hm
    rw [hm,Nat.mul_one] at hle
    split
    ·rename_i l hrow
     have hv:=Zd hrow (oH len hr)
     have hll:l.length=len:=by
      have:=congrArg List.length hv
      rw [List.length_take,List.length_map] at this
      omega
     refine .inr ⟨L.μ n,0,cap,by rw [hll],by omega,h.not,hlt,fun j hj=> ?_⟩
     rw [Nat.zero_add]
     have hjl:j<len:=by omega
     have:ys[j]? = some (.int k (l.getD j 0)):=by
      have h1:(ys.take len)[j]? = ys[j]? := by rw [List.getElem?_take,if_pos hjl]
      rw [← h1,hv]
      simp [List.getD_eq_getElem?_getD,List.getElem?_eq_getElem hj]
     exact zC hb this
    ·trivial
   ·trivial
  ·rename_i hk
   split
   ·rename_i l hrow
    obtain ⟨g1,g2⟩:=Qi hrow (oH (len*t.m) hr)
    rw [List.length_take] at g1
    refine .inr ⟨L.μ n,0,len,cap,rfl,by omega,hcap,h.not,hlt,fun j c hj=> ?_⟩
    obtain ⟨y,hy,hrep⟩:=g2 j c hj
    rw [Nat.zero_add]
    refine ⟨y,zC hb ?_,QC.dU (L:=⟨L.S,L.μ,fun _=>False⟩) (L':=⟨L'.S,L'.μ,fun _=>False⟩) h.e hrep⟩
    rw [List.getElem?_take] at hy
    split at hy
    ·exact hy
    ·cases hy
   ·trivial
 ·trivial
theorem x7 {L:aY} : ∀ {cs:List AC} {ys:List Value} {l:List QC},Bi cs=some l->bE L w cs ys -> ∀ (j:Nat) (c:QC),l[j]? = some c -> ∃ y,ys[j]? = some y/\c.rep L.S w y
 | [],[],l,h,_=>by simp only [Bi,Option.some.injEq] at h;subst h;exact fun j c hj=>by simp at hj
 | [],_::_,_,_,hr=>hr.elim
 | _::_,[],_,_,hr=>hr.elim
 | c::cs,y::ys,l,h,hr=>by
  simp only [Bi] at h
  split at h
  ·rename_i q l' hq hl
   cases h
   intro j c hj
   cases j with
   | zero=>simp at hj;subst hj;exact ⟨y,rfl,Wx hq hr.1⟩
   | succ j=>simpa using x7 hl hr.2 j c (by simpa using hj)
  ·cases h
theorem Oh (h:rO n L L') (hb:w.heap[L.μ n]? = some (.cells (ys++zs).toArray T (0,0))) (hr:bE L w cs ys) (hlt:L.μ n<w.heap.size) : ∀ {caps l:List FC} {us:List Value},pS n cs caps=some l->lP L w caps us->lP L' w l us
 | [],l,us,hl,hc=>by simp only [pS,Option.some.injEq] at hl;subst hl;cases us with | nil=>trivial | cons _ _=>exact hc.elim
 | _::_,l,[],hl,hc=>hc.elim
 | .q c::caps,l,y::us,hl,hc=>by
  simp only [pS] at hl
  split at hl
  ·rename_i l' hl'
   cases hl
   exact ⟨QC.dU (c:=c) (L:=⟨L.S,L.μ,fun _=>False⟩) (L':=⟨L'.S,L'.μ,fun _=>False⟩) h.e hc.1,Oh h hb hr hlt hl' hc.2⟩
  ·cases hl
 | .p m off::caps,l,y::us,hl,hc=>by
  simp only [pS] at hl
  split at hl
  ·rename_i l' hl'
   split at hl
   ·rename_i hmn
    have e:y = .pointer (some ⟨L.μ n,off,none⟩):=by rw [← hmn];exact hc.1.2
    split at hl
    ·rename_i a ha
     split at hl
     ·rename_i c hcq
      cases hl
      refine ⟨?_,Oh h hb hr hlt hl' hc.2⟩
      obtain ⟨u,g1,g2⟩:=Ga off hr ha
      have hcell:=zC hb g1
      unfold AC.pq at hcq
      split at hcq
      ·rename_i x
       cases hcq
       obtain ⟨rfl,g3⟩:=g2
       exact ⟨g3,L.μ n,off,e,h.not,hlt,hcell⟩
      ·rename_i mm qs
       split at hcq
       ·rename_i vl hvl
        cases hcq
        have hq:(QC.qv mm vl).rep L.S w u:=Wx (c:= .q mm qs) (by simp [AC.qc,hvl]) g2
        exact ⟨L.μ n,off,e,h.not,hlt,u,hcell,QC.dU (c:= .qv mm vl) (L:=⟨L.S,L.μ,fun _=>False⟩) (L':=⟨L'.S,L'.μ,fun _=>False⟩) h.e hq⟩
       ·cases hcq
      ·cases hcq
     ·cases hl
    ·cases hl
   ·rename_i hmn
    cases hl
    exact ⟨⟨h.D m hmn hc.1.1,by rw [h.μ];exact hc.1.2⟩,Oh h hb hr hlt hl' hc.2⟩
  ·cases hl
theorem AC.Ad (h:rO n L L') (hb:w.heap[L.μ n]? = some (.cells (ys++zs).toArray T (0,0))) (hr:bE L w cs ys) (hlt:L.μ n<w.heap.size) {c:AC} {y:Value} (hc:c.rep L w y):(c.rel n cs).rep L' w y:=by
 cases c with
 | p m off=>
  simp only [AC.rel]
  split
  ·rename_i hn
   subst hn
   unfold Am
   split
   ·rename_i l hl
    refine ⟨L.μ m,off,hc.2,h.not,hlt,fun j c hj=> ?_⟩
    obtain ⟨y',g1,g2⟩:=x7 hl (wY off hr) j c hj
    exact ⟨y',zC hb (by rw [List.getElem?_drop] at g1;exact g1),QC.dU (L:=⟨L.S,L.μ,fun _=>False⟩) (L':=⟨L'.S,L'.μ,fun _=>False⟩) h.e g2⟩
   ·trivial
  ·rename_i hn
   obtain ⟨h1,h2⟩:=hc
   exact ⟨h.D m hn h1,by rw [h.μ];exact h2⟩
 | s t m len=>
  obtain ⟨h1,cap,h2,h3,h4,h5⟩:=hc
  simp only [AC.rel]
  split
  ·rename_i hn
   subst hn
   rw [h2]
   exact aCv h hb hr hlt h4
  ·rename_i hn
   exact ⟨h.D m hn h1,cap,by rw [h.μ];exact h2,by rw [h.μ];exact h3,h4,h5⟩
 | v x=>exact AC.dU (a:= .v x) (w:=w) (w':=w) h.e hc
 | k x=>exact AC.dU (a:= .k x) h.e hc
 | r e l=>exact AC.dU (a:= .r e l) h.e hc
 | q m cs=>exact AC.dU (a:= .q m cs) h.e hc
 | kq cs=>exact AC.dU (a:= .kq cs) h.e hc
 | fn f caps=>
  obtain ⟨us,h1,h2⟩:=hc
  simp only [AC.rel]
  split
  ·rename_i l hl
   exact ⟨us,h1,Oh h hb hr hlt hl h2⟩
  ·trivial
 | ik k=>exact hc
 | nil e=>exact hc
 | u=>trivial
theorem Vh (h:rO n L L') (hb:w.heap[L.μ n]? = some (.cells (ys++zs).toArray T (0,0))) (hr:bE L w cs ys) (hlt:L.μ n<w.heap.size) : ∀ {aRR:List AC} {vs:List Value},bE L w aRR vs->bE L' w (aRR.map (·.rel n cs)) vs
 | [],[],_=>trivial
 | [],_::_,hr=>hr.elim
 | _::_,[],hr=>hr.elim
 | _::_,_::_,hq=>⟨AC.Ad h hb hr hlt hq.1,Vh h hb hr hlt hq.2⟩
theorem AP.Ad (h:rO n L L') (hb:w.heap[L.μ n]? = some (.cells (ys++zs).toArray T (0,0))) (hr:bE L w cs ys) (hlt:L.μ n<w.heap.size) {c:AP} {y:Value} (hc:c.rep L w y):(c.rel n cs).rep L' w y:=by
 cases c with
 | c a=>exact AC.Ad (c:=a) h hb hr hlt hc
 | g aRR=>obtain ⟨vs,h1,h2⟩:=hc;exact ⟨vs,h1,Vh h hb hr hlt h2⟩
theorem aSu (h:rO n L L') (hb:w.heap[L.μ n]? = some (.cells (ys++zs).toArray T (0,0))) (hr:bE L w cs ys) (hlt:L.μ n<w.heap.size) : ∀ {aRR:List AP} {vs:List Value},cP L w aRR vs->cP L' w (aRR.map (·.rel n cs)) vs
 | [],[],_=>trivial
 | [],_::_,hr=>hr.elim
 | _::_,[],hr=>hr.elim
 | _::_,_::_,hq=>⟨AP.Ad h hb hr hlt hq.1,aSu h hb hr hlt hq.2⟩
theorem AV.Ad (h:rO n L L') (hb:w.heap[L.μ n]? = some (.cells (ys++zs).toArray T (0,0))) (hr:bE L w cs ys) (hlt:L.μ n<w.heap.size) {c:AV} {y:Value} (hc:c.rep L w y):(c.rel n cs).rep L' w y:=by
 cases c with
 | o a=>exact AP.Ad (c:=a) h hb hr hlt hc
 | t l=>obtain ⟨vs,h1,h2⟩:=hc;exact ⟨vs,h1,aSu h hb hr hlt h2⟩
 | io a b l=>exact hc.elim
end
theorem Rel.pG (hS0:Start S0 w0) (n:Nat) (hge:s.mem n≠none->w0.heap.size <= μ n) (R:Rel S0 w0 N μ s a w):Rel S0 w0 N μ (s.pG n) a w:=by
 unfold St.pG
 split
 ·rename_i cs hcs
  have hge:=hge (by rw [hcs];simp)
  obtain ⟨-,ys,zs,T,hb,hr⟩:=R.mem n cs hcs
  have hlt:=R.lt n (by rw [hcs];simp)
  have hdom : ∀ m,(if m=n then none else match s.mem m with | some c=>some (c.map (·.rel n cs))| none=>none)≠none->m≠n/\s.mem m≠none:=fun m hm=>by
   split at hm
   ·exact absurd rfl hm
   ·rename_i hmn
    refine ⟨hmn,fun e=> ?_⟩
    rw [e] at hm
    exact hm rfl
  have hx:rO n (own S0 μ s.mem) (own S0 μ (fun m=>if m=n then none else match s.mem m with | some c=>some (c.map (·.rel n cs))| none=>none)):=by
   refine ⟨fun m hm h=> ?_,rfl,?_,?_⟩
   ·show (if m=n then none else match s.mem m with | some c=>some (c.map (·.rel n cs))| none=>none)≠none
    rw [if_neg hm]
    cases hs:s.mem m with
    | none=>exact absurd hs h
    | some c=>simp
   ·rintro b (h | ⟨m,hm,hmb⟩)
    ·exact .inl h
    ·exact .inr ⟨m,(hdom m hm).2,hmb⟩
   ·rintro (h | ⟨m,hm,hmb⟩)
    ·have h1:=hS0.lt _ h
     have h2:w0.heap.size <= μ n:=hge
     exact absurd h1 (Nat.not_lt.2 h2)
    ·obtain ⟨h1,h2⟩:=hdom m hm
     exact h1 (R.inj m n h2 (by rw [hcs];simp) hmb)
  refine { tmp:=fun t=>AV.Ad hx hb hr hlt (R.tmp t),mem:=fun m c hm=> ?_,inj:=fun i j hi hj hij=>R.inj i j (hdom i hi).2 (hdom j hj).2 hij,below:=R.below,kS:=fun m b h hm=>R.kS m b h (hdom m hm).2,defers:=R.defers,size:=R.size,small:=R.small }
  dsimp only at hm
  split at hm
  ·cases hm
  ·split at hm
   ·rename_i c0 hc0
    cases hm
    obtain ⟨h1,ys',zs',T',h2,h3⟩:=R.mem m c0 hc0
    exact ⟨h1,ys',zs',T',h2,Vh hx hb hr hlt h3⟩
   ·cases hm
 ·exact R
theorem Rel.rel (hS0:Start S0 w0) (n:Nat) (R:Rel S0 w0 N μ s a w):Rel S0 w0 N μ (s.rel n) a w:=by
 unfold St.rel
 split
 ·exact R
 ·rename_i h
  exact R.pG hS0 n (R.ge n (by omega))
theorem Rel.hY (hS0:Start S0 w0) : ∀ (ns:List Nat) {s:St},Rel S0 w0 N μ s a w->Rel S0 w0 N μ (s.hY ns) a w
 | [],s,R=>R
 | n::ns,s,R=>Rel.hY hS0 ns (R.rel hS0 n)
theorem aNl {c:Call} {f:Nat} {args:List SA} (hS0:Start S0 w0) (hsp:fA P sp) (R:Rel S0 w0 N μ s a w) (hop:o.op = .call c) (hcal:c.callee = .value (.func f)) (hargs:eR c.args.toList args=true) (he:aC sp dst (.lO f args) s=some (v,s')):Sound P S0 w0 N o s' v a w:=by
 simp only [aC] at he
 split at he
 ·rename_i as0 has0
  refine H3 (dst:=dst) (args:=args) hS0 hsp (R.hY hS0 (tX s as0)) hop hcal hargs ?_
  simp only [aC]
  exact he
 ·cases he
theorem aE4 {c:Call} {f:Nat} {args:List SA} (hS0:Start S0 w0) (hdn : ∀ n,dst=some n->S0.st n=none) (hsp:fA P sp) (R:Rel S0 w0 N μ s a w) (hop:o.op = .call c) (hcal:c.callee = .value (.func f)) (hargs:eR c.args.toList args=true) (he:aC sp dst (.zE f args) s=some (v,s')):Sound P S0 w0 N o s' v a w:=by
 simp only [aC] at he
 split at he
 ·rename_i d aRR has
  split at he
  case isFalse=>cases he
  rename_i hf
  split at he
  ·rename_i t n hd hr
   simp only [Option.some.injEq,Prod.mk.injEq] at he
   obtain ⟨rfl,rfl⟩:=he
   have hrep:=Hp R c.args.toList args hargs has
   have hres:(execOp a.eval o).run P w=(callFunc f (c.args.toList.map a.eval).toArray).run P w:=by
    have e:(c.args.toList.map a.eval).toArray=c.args.map a.eval:=by apply Array.ext';rw [Array.toList_map]
    rw [e]
    simp [execOp,hop,resolve,hcal,Act.eval,Deferred.ofValue,invoke]
   rcases hsp f _ _ hr with ⟨hent,-,hm⟩ | ⟨-,hin⟩ | ⟨hent,t',d',htd,hm⟩ | ⟨_,_,_,_,_,_,_,_,hio,_⟩
   ·intro K Q hK
    unfold Oper.wp
    rw [hres,hent]
    refine (hm (own S0 μ s.mem).S w _ (R.bd hS0) (hS0.Qf R.below) (Fg hf hrep)).mono ?_
    rintro e w' ⟨y,rfl,hy,hb⟩
    exact absurd hy.1 id
   ·obtain ⟨y,hy,hL⟩:=hin w (c.args.toList.map a.eval) (by
     have:=Fg hf hrep
     exact Kw (L:=⟨(own S0 μ s.mem).S,fun _=>0,fun _=>False⟩) (w:=w) ⟨fun n h=>h.elim,fun b _ _=>⟨rfl,fun h=>h⟩,Nat.le_refl _,fun n h=>h.elim⟩ this)
    exact absurd (hL ⟨fun _=>False,fun _=>0,fun _=>False⟩ w).1 id
   ·simp only [AV.o.injEq,AP.c.injEq,AC.s.injEq,and_true] at htd
    obtain ⟨rfl,rfl⟩:=htd
    intro K Q hK
    unfold Oper.wp
    rw [hres,hent]
    refine (hm (own S0 μ s.mem).S w _ (R.bd hS0) (hS0.Qf R.below) (Fg hf hrep)).mono ?_
    rintro e w' ⟨b,cap,cur,rfl,hb,hblk,hcs,hcm,hbel⟩
    obtain ⟨R',hD,hμ⟩:=R.fresh hS0 (cs:= []) (ys:= []) (zs:=cur.toList) (T:=t.e) (b:=b) hd (hdn d rfl) hb (by rw [hblk];simp) hbel trivial
    refine hK _ _ w' R' ⟨hD,cap,?_,?_,Nat.zero_le _,hcm⟩
    ·show _=Value.slice (some ⟨aP μ d b d,0,none⟩) _ _
     rw [hμ]
    ·show w'.shape? (aP μ d b d)=_
     rw [hμ,Bp hblk,hcs]
   ·cases hio
  ·cases he
 ·cases he
end
end Go.VC
end
