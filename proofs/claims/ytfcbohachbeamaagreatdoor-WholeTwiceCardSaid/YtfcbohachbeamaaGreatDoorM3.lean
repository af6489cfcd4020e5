/- What the laws' code answers: part 3 of what the rows of this seat lean on. -/
import Derived.Test.YtfcbohachbeamaaGreatDoorM2
set_option linter.unusedVariables false
set_option linter.unusedSimpArgs false
set_option maxHeartbeats 8000000
set_option maxRecDepth 100000
section
namespace Go.VC
attribute [simp] gU eG aC SA.ev St.put aP AV.val AV.ptr AV.part AV.agg AV.row AV.zJ AP.cells AP.ok AC.known AC.free AP.free AV.free kH eZ dC bO sM Ii bJ gY mO mP AC.wk AP.wk uW rF AC.rows aBn Ql tX St.hY
@[simp] theorem aRM:IntKind.u64.bits=64:=rfl
@[simp] theorem aRO:IntKind.i64.bits=64:=rfl
@[simp] theorem aRN:IntKind.u8.bits=8:=rfl
theorem aD {n:Int} (h1 : -0x8000000000000000<=n) (h2:n<0x8000000000000000):IntKind.i64.wrap n=n:=by rw [IntKind.wrap_i64];omega
theorem fI (n:Int):IntKind.u64.wrap n=n%0x10000000000000000:=by simp [IntKind.wrap,IntKind.bits,IntKind.signed]
theorem Pt {a:Int} (h0:0<=a) (h1:a<0x10000000000000000):(BitVec.ofInt 64 a).toNat=a.toNat:=by
 rw [BitVec.toNat_ofInt]
 have:a%((2 ^ 64:Nat):Int)=a:=by
  have:((2 ^ 64:Nat):Int)=0x10000000000000000:=by decide
  rw [this];omega
 rw [this]
theorem aKR {a b:Int} (ha0:0<=a) (ha1:a<0x10000000000000000) (hb0:0<=b) (hb1:b<0x10000000000000000):cX .or .u64 a b=((a.toNat ||| b.toNat:Nat):Int):=by
 show IntKind.u64.wrap ((BitVec.ofInt 64 a ||| BitVec.ofInt 64 b).toNat:Nat)=_
 rw [BitVec.toNat_or,Pt ha0 ha1,Pt hb0 hb1,fI]
 have:a.toNat ||| b.toNat<2 ^ 64:=Nat.or_lt_two_pow (by omega) (by omega)
 omega
theorem aH9 {a b:Int} (ha0:0<=a) (ha1:a<0x10000000000000000) (hb0:0<=b) (hb1:b<0x10000000000000000):cX .and .u64 a b=((a.toNat &&& b.toNat:Nat):Int):=by
 show IntKind.u64.wrap ((BitVec.ofInt 64 a &&& BitVec.ofInt 64 b).toNat:Nat)=_
 rw [BitVec.toNat_and,Pt ha0 ha1,Pt hb0 hb1,fI]
 have:a.toNat &&& b.toNat<=a.toNat:=Nat.and_le_left
 omega
theorem Ng {a b:Int} (k:Nat) (hk:k<=64) (ha0:0<=a) (ha1:a<0x10000000000000000) (ha:a%(2 ^ k:Int)=0) (hb0:0<=b) (hb:b<(2 ^ k:Int)) (hb1:b<0x10000000000000000):cX .or .u64 a b=a+b:=by
 rw [aKR ha0 ha1 hb0 hb1]
 obtain ⟨a,rfl⟩:=Int.eq_ofNat_of_zero_le ha0
 obtain ⟨b,rfl⟩:=Int.eq_ofNat_of_zero_le hb0
 have e:((2 ^ k:Nat):Int)=(2 ^ k:Int):=by push_cast;rfl
 rw [← e] at ha hb
 have ha':a%2 ^ k=0:=by exact_mod_cast ha
 have hb':b<2 ^ k:=by exact_mod_cast hb
 have h:=Nat.two_pow_add_eq_or_of_lt hb' (a/2 ^ k)
 have h2:2 ^ k*(a/2 ^ k)=a:=by have:=Nat.div_add_mod a (2 ^ k);omega
 rw [h2] at h
 simp only [Int.toNat_natCast]
 rw [← h]
 push_cast
 rfl
theorem Ki {a b:Int} (k:Nat) (ha0:0<=a) (ha1:a<0x10000000000000000) (hb:b=(2 ^ k:Int)-1) (hb1:b<0x10000000000000000):cX .and .u64 a b=a%(2 ^ k:Int):=by
 have e:((2 ^ k:Nat):Int)=(2 ^ k:Int):=by push_cast;rfl
 have hpos:0<2 ^ k:=Nat.two_pow_pos k
 have hb0:0<=b:=by rw [hb,← e];omega
 rw [aH9 ha0 ha1 hb0 hb1]
 obtain ⟨a,rfl⟩:=Int.eq_ofNat_of_zero_le ha0
 have hbn:b.toNat=2 ^ k-1:=by rw [hb,← e];omega
 rw [hbn]
 simp only [Int.toNat_natCast]
 rw [Nat.and_two_pow_sub_one_eq_mod,← e]
 push_cast
 rfl
theorem qX {a b:Int} (hb:0<=b):a.fdiv b=a/b:=Int.fdiv_eq_ediv_of_nonneg a hb
def lb (x:Int):AP:= .g [.v (.int .u64 (x/0x10000000000000000)),.v (.int .u64 (x%0x10000000000000000))]
def dL:AP->Option Int
 | .g [.v (.int .u64 h),.v (.int .u64 l)]=>if 0<=h/\h<0x10000000000000000/\0<=l/\l<0x10000000000000000 then some (h*0x10000000000000000+l) else none
 | _=>none
theorem aX {x:Int} (h0:0<=x) (h1:x<0x100000000000000000000000000000000):dL (.g [.v (.int .u64 (x/0x10000000000000000)),.v (.int .u64 (x%0x10000000000000000))])=some x:=by
 simp only [dL]
 rw [if_pos (by omega)]
 congr 1
 omega
theorem lQ {a:AP} {x:Int} (h:dL a=some x):a=lb x/\0<=x/\x<0x100000000000000000000000000000000:=by
 unfold dL at h
 split at h
 ·split at h
  ·rename_i hh
   cases h
   refine ⟨?_,by omega,by omega⟩
   unfold lb
   congr 3<;>first |(congr 2;omega)|(congr 3;omega)| skip
  ·cases h
 ·cases h
def wd (x:Int):AP:= .g [.v (.int .i64 (x/0x10000000000000000)),.v (.int .u64 (x%0x10000000000000000))]
def dW:AP->Option Int
 | .g [.v (.int .i64 h),.v (.int .u64 l)]=>if -0x8000000000000000<=h/\h<0x8000000000000000/\0<=l/\l<0x10000000000000000 then some (h*0x10000000000000000+l) else none
 | _=>none
theorem lT {x:Int} (h0 : -0x80000000000000000000000000000000<=x) (h1:x<0x80000000000000000000000000000000):dW (.g [.v (.int .i64 (x/0x10000000000000000)),.v (.int .u64 (x%0x10000000000000000))])=some x:=by
 simp only [dW]
 rw [if_pos (by omega)]
 congr 1
 omega
theorem jT {a:AP} {x:Int} (h:dW a=some x):a=wd x /\ -0x80000000000000000000000000000000<=x/\x<0x80000000000000000000000000000000:=by
 unfold dW at h
 split at h
 ·split at h
  ·rename_i hh
   cases h
   refine ⟨?_,by omega,by omega⟩
   unfold wd
   congr 3<;>first |(congr 2;omega)|(congr 3;omega)| skip
  ·cases h
 ·cases h
end Go.VC
namespace Go.VC
def cO (o:Option (AX×St)) (Q:AX->St->Prop):Prop:=
 match o with
 | some (a,s)=>Q a s
 | none=>False
theorem cO.mono {o:Option (AX×St)} {Q Q':AX->St->Prop} (h:cO o Q) (hQ : ∀ a s,Q a s->Q' a s):cO o Q':=by
 unfold cO at *
 split at h
 ·exact hQ _ _ h
 ·exact h
theorem aBx {g:Nat} {s:List AP->Option AV} {l:List (Nat×(List AP->Option AV))} {f:Nat} {aRR:List AP} : gV ((g,s)::l) f aRR=if f=g then s aRR else gV l f aRR:=_root_.id rfl
theorem aQr {f:Nat} {aRR:List AP} : gV [] f aRR=none:=_root_.id rfl
attribute [simp] aBx aQr
section
variable {sp:Spec} {k:Nat} {s:St} {Q:AX->St->Prop}
theorem aOi:cO (bQ sp k .skip s) Q=Q .n s:=_root_.id rfl
theorem aMy {i:Nat} : cO (bQ sp k (.exit i) s) Q=Q (.e i) s:=_root_.id rfl
theorem aPF:cO (bQ sp k .ret s) Q=Q .r s:=_root_.id rfl
def after (sp:Spec) (k:Nat) (b:SC) (Q:AX->St->Prop):AX->St->Prop
 | .n,s=>cO (bQ sp k b s) Q
 | .e i,s=>Q (.e i) s
 | .r,s=>Q .r s
theorem aBG {b:SC} : after sp k b Q .n s=cO (bQ sp k b s) Q:=_root_.id rfl
theorem aOk {b:SC} {i:Nat} : after sp k b Q (.e i) s=Q (.e i) s:=_root_.id rfl
theorem aPl {b:SC} : after sp k b Q .r s=Q .r s:=_root_.id rfl
theorem o4 {a b:SC} : cO (bQ sp k (.seq a b) s) Q=cO (bQ sp k a s) (after sp k b Q):=by
 simp only [bQ]
 cases h:bQ sp k a s with
 | none=>rfl
 | some x=>
  obtain ⟨ax,s'⟩:=x
  cases ax<;>rfl
def inBlock (id:Nat) (Q:AX->St->Prop):AX->St->Prop
 | .n,s=>Q .n s
 | .e i,s=>if i=id then Q .n s else Q (.e i) s
 | .r,s=>Q .r s
theorem aHk {id:Nat} : inBlock id Q .n s=Q .n s:=_root_.id rfl
theorem aF7 {id i:Nat} : inBlock id Q (.e i) s=if i=id then Q .n s else Q (.e i) s:=_root_.id rfl
theorem aNx {id:Nat} : inBlock id Q .r s=Q .r s:=_root_.id rfl
theorem W4 {id:Nat} {a:SC} : cO (bQ sp k (.block id a) s) Q=cO (bQ sp k a s) (inBlock id Q):=by
 simp only [bQ]
 cases h:bQ sp k a s with
 | none=>rfl
 | some x=>
  obtain ⟨ax,s'⟩:=x
  cases ax with
  | n=>rfl
  | r=>rfl
  | e i=>
   simp only [cO,inBlock]
   by_cases hi:i=id<;>simp [hi]
theorem D2 {c:SA} {a b:SC} : cO (bQ sp k (.cond c a b) s) Q=match (c.ev s).val with
 | some (.bool t)=>if t then cO (bQ sp k a s) Q else cO (bQ sp k b s) Q
 | _=>False:=by
 simp only [bQ]
 generalize (c.ev s).val=v
 cases v with
 | none=>rfl
 | some v=>cases v<;>first | rfl |(rename_i t;cases t<;>rfl)
theorem aHs {ns:List Nat} {a:SC} : cO (bQ sp k (.forget ns a) s) Q=cO (bQ sp k a (s.drop ns)) Q:=_root_.id rfl
def Gh (o:Option St) (Q:St->Prop):Prop:=
 match o with
 | some s=>Q s
 | none=>False
theorem aIu {Q:St->Prop} : Gh (some s) Q=Q s:=_root_.id rfl
theorem C6 {ops:List bW} : cO (bQ sp k (.region ops) s) Q=Gh (gU sp ops s) (Q .n):=by
 simp only [bQ]
 cases gU sp ops s<;>rfl
theorem aBk {o:bW} {os:List bW} {Q:St->Prop} : Gh (gU sp (o::os) s) Q=Gh (eG sp o s) (fun s'=>Gh (gU sp os s') Q):=by
 simp only [gU]
 cases eG sp o s<;>rfl
theorem aJe {a:SC} : cO (bQ sp k (.loop a) s) Q=cO (iter (bQ sp k a) k s) Q:=_root_.id rfl
end
theorem Ly {f:St->Option (AX×St)} {Q:AX->St->Prop} (I:Nat->St->Prop) (n:Nat) (step : ∀ i s,i<n->I i s->cO (f s) (fun ax s'=>match ax with | .n=>I (i+1) s' | ax=>Q ax s'))
 (last : ∀ s,I n s->cO (f s) (fun ax s'=>match ax with | .n=>False | ax=>Q ax s')) : ∀ (k i:Nat) (s:St),i<=n->n-i<k->I i s->cO (iter f k s) Q
 | 0,i,s,hi,hk,hI=>by omega
 | k+1,i,s,hi,hk,hI=>by
  simp only [iter]
  by_cases hin:i<n
  ·have h:=step i s hin hI
   cases hf:f s with
   | none=>rw [hf] at h;exact h.elim
   | some x=>
    obtain ⟨ax,s'⟩:=x
    rw [hf] at h
    cases ax with
    | n=>exact Ly I n step last k (i+1) s' (by omega) (by omega) h
    | e id=>exact h
    | r=>exact h
  ·have:i=n:=by omega
   subst this
   have h:=last s hI
   cases hf:f s with
   | none=>rw [hf] at h;exact h.elim
   | some x=>
    obtain ⟨ax,s'⟩:=x
    rw [hf] at h
    cases ax with
    | n=>exact h.elim
    | e id=>exact h
    | r=>exact h
theorem Ee {f:St->Option (AX×St)} {Q:AX->St->Prop} (I:Nat->St->Prop) (step : ∀ m s,I m s->cO (f s) (fun ax s'=>match ax with | .n=> ∃ m',m'<m/\I m' s' | ax=>Q ax s')) :
 ∀ (k m:Nat) (s:St),m<k->I m s->cO (iter f k s) Q
 | 0,m,s,hk,hI=>by omega
 | k+1,m,s,hk,hI=>by
  simp only [iter]
  have h:=step m s hI
  cases hf:f s with
  | none=>rw [hf] at h;exact h.elim
  | some x=>
   obtain ⟨ax,s'⟩:=x
   rw [hf] at h
   cases ax with
   | n=>
    obtain ⟨m',h1,h2⟩:=h
    exact Ee I step k m' s' (by omega) h2
   | e id=>exact h
   | r=>exact h
def Ka (f:SF) (s:St):Option AV:=
 match mO s f.res with
 | some l0=>match mO (s.hY (uW l0)) f.res with
  | some l=>if l.all (·.free)=true then some (mP (l.map AP.wk)) else none
  | none=>none
 | none=>none
def done (f:SF) (r:AV):AX->St->Prop
 | .n,s=>Ka f s=some r
 | .e _,_=>False
 | .r,s=>Ka f s=some r
theorem aD3 {f:SF} {r:AV} {s:St} : done f r .n s=(Ka f s=some r):=_root_.id rfl
theorem aL9 {f:SF} {r:AV} {s:St} : done f r .r s=(Ka f s=some r):=_root_.id rfl
theorem P8 {sp:Spec} {k:Nat} {f:SF} {aRR:List AP} {r:AV} (h:cO (bQ sp k f.code (gY aRR)) (done f r)):Ff sp k f aRR=some r:=by
 unfold Ff
 cases hc:bQ sp k f.code (gY aRR) with
 | none=>rw [hc] at h;exact h.elim
 | some x=>
  obtain ⟨ax,s⟩:=x
  rw [hc] at h
  cases ax with
  | n=>exact h
  | e i=>exact h.elim
  | r=>exact h
theorem eE {P:Program} {sp:Spec} {f:Nat} {fn:Func} {sf:SF} {s:List AP->Option AV} (hf:P.funcs[f]? = some fn) (hent:Enters P f) (hchk:wK P fn sf=true) (hsp:fA P sp)
 (h : ∀ aRR r,s aRR=some r->aRR.length<=sf.ntmps /\ ∃ k,cO (bQ sp k sf.code (gY aRR)) (done sf r)):Ok P f s:=
 aOZ hf hent hchk hsp fun aRR r hr=>by
  obtain ⟨h1,k,h2⟩:=h aRR r hr
  exact ⟨h1,k,P8 h2⟩
attribute [simp] aOi aMy aPF aBG aOk aPl o4 aHk aF7 aNx W4 D2 aHs aIu C6 aJe Ka aD3 aL9
end Go.VC
namespace Go.VC
def xG (P:Program) (f:Nat) (s:List AP->Option AV):Prop:= ∀ aRR r,s aRR=some r->Qd P f aRR r
theorem aPC {P:Program} {sp:Spec} {f:Nat} {fn:Func} {sf:SF} {s:List AP->Option AV} (hf:P.funcs[f]? = some fn) (hchk:wK P fn sf=true) (hsp:fA P sp)
 (h : ∀ aRR r,s aRR=some r->aRR.length<=sf.ntmps /\ ∃ k,cO (bQ sp k sf.code (gY aRR)) (done sf r)):xG P f s:=fun aRR r hr=>by
 obtain ⟨h1,k,h2⟩:=h aRR r hr
 exact Zl k hf hchk hsp h1 (P8 h2)
theorem xG.ok {P:Program} {f:Nat} {s:List AP->Option AV} (h:xG P f s) (hent:Enters P f):Ok P f s:=fun aRR r hr=> .inl ⟨hent,h aRR r hr⟩
end Go.VC
namespace Go.VC
def sO (o:Option (AV×St)) (K:AV->St->Prop):Prop:=
 match o with
 | some (v,s')=>K v s'
 | none=>False
theorem jS {c:Prop} [Decidable c] {v:AV} {s:St} {K:AV->St->Prop} : sO (if c then some (v,s) else none) K=(c/\K v s):=by
 by_cases h:c<;>simp [h,sO]
theorem wD {c:Prop} [Decidable c] {o:Option (AV×St)} {K:AV->St->Prop} : sO (if c then o else none) K=(c/\sO o K):=by
 by_cases h:c<;>simp [h,sO]
theorem aMk {K:AV->St->Prop} : sO none K=False:=_root_.id rfl
def aR (sp:Spec) (d:Option Nat) (o:bA) (s:St) (K:AV->St->Prop):Prop:=sO (aC sp d o s) K
def St.Ej (s:St) (g:Nat) (b:Bool):St:= { s with tm:=aP s.tm g (.o (.c (.v (.bool b)))) }
def qR (sp:Spec) (ops:List bW) (s:St) (Q:St->Prop):Prop:=Gh (gU sp ops s) Q
def My (sp:Spec) (d:Option Nat) (os:List bW) (Q:St->Prop) (v:AV) (s:St):Prop:=qR sp os (s.put d v) Q
theorem E3 {s:St} {g:Nat} {b:Bool} (h:s.tm g = .o (.c (.v (.bool b)))):s.Ej g b=s:=by
 unfold St.Ej
 have:aP s.tm g (.o (.c (.v (.bool b))))=s.tm:=by
  funext m
  unfold aP
  split
  ·rename_i hm;subst hm;exact h.symm
  ·rfl
 rw [this]
section
variable {sp:Spec} {d:Option Nat} {s:St} {K:AV->St->Prop} {Q:St->Prop} {os:List bW}
theorem aFT:qR sp [] s Q=Q s:=_root_.id rfl
theorem aLj {o:bA} : qR sp (⟨d,o,none⟩::os) s Q=aR sp d o s (My sp d os Q):=by
 unfold qR aR sO
 rw [aBk]
 unfold eG
 dsimp only
 cases aC sp d o s with
 | none=>rfl
 | some x=>rfl
theorem aCw {v:AV} : My sp d os Q v s=qR sp os (s.put d v) Q:=_root_.id rfl
def Wi (t:AV) (sp:Spec) (d:Option Nat) (o:bA) (g:Nat) (w:Bool) (os:List bW) (s:St) (Q:St->Prop):Prop:=
 match t with
 | .o (.c (.v (.bool b)))=>if b=w then aR sp d o (s.Ej g w) (My sp d os Q) else qR sp os ((s.Ej g (!w)).put d (.t [])) Q
 | .t _=>qR sp os (s.put d (.t [])) Q
 | _=>False
theorem F3 {o:bA} {g:Nat} {w b:Bool} : Wi (.o (.c (.v (.bool b)))) sp d o g w os s Q=(if b=w then aR sp d o (s.Ej g w) (My sp d os Q) else qR sp os ((s.Ej g (!w)).put d (.t [])) Q):=_root_.id rfl
theorem aNv {o:bA} {g:Nat} {w:Bool} {l:List AP} : Wi (.t l) sp d o g w os s Q=qR sp os (s.put d (.t [])) Q:=_root_.id rfl
theorem aBC {o:bA} {g:Nat} {w:Bool} : qR sp (⟨d,o,some (g,w)⟩::os) s Q=Wi (s.tm g) sp d o g w os s Q:=by
 unfold qR
 rw [aBk]
 unfold eG
 dsimp only
 cases ht:s.tm g with
 | t l=>rfl
 | io _ _ _=>rfl
 | o a=>
  cases a with
  | g cs=>rfl
  | c a=>
   cases a with
   | v x=>
    cases x with
    | bool b=>
     rw [F3]
     dsimp only
     by_cases hb:b=w
     ·subst hb
      rw [if_pos rfl,if_pos rfl,E3 ht]
      unfold aR sO
      cases aC sp d o s with
      | none=>rfl
      | some x=>rfl
     ·have hb':b = !w:=by cases b<;>cases w<;>simp_all
      rw [if_neg hb,if_neg hb,← hb',E3 ht]
      rfl
    | _=>rfl
   | _=>rfl
theorem aQL {x:SA} : aR sp d (.mv x) s K=K (x.ev s) s:=_root_.id rfl
def T7 (c a b:AV) (s:St) (K:AV->St->Prop):Prop:=
 match c with
 | .o (.c (.v (.bool t)))=>if t=true then K a s else K b s
 | _=>False
theorem L6 {t:Bool} {a b:AV} : T7 (.o (.c (.v (.bool t)))) a b s K=(if t=true then K a s else K b s):=_root_.id rfl
theorem aRh {c a b:SA} : aR sp d (.pick c a b) s K=T7 (c.ev s) (a.ev s) (b.ev s) s K:=by
 unfold aR
 simp only [aC]
 cases c.ev s with
 | t l=>rfl
 | io _ _ _=>rfl
 | o x=>
  cases x with
  | g cs=>rfl
  | c x=>
   cases x with
   | v x=>
    cases x with
    | bool t=>rw [L6];cases t<;>rfl
    | _=>rfl
   | _=>rfl
def A8 (m:Option (List AC)) (n:Nat) (z:List AC) (s:St) (K:AV->St->Prop):Prop:=
 match m with
 | none=>K (.o (.c (.p n 0))) { s with mem:=aP s.mem n (some z) }
 | some _=>False
theorem aIU {n:Nat} {z:List AC} : A8 none n z s K=K (.o (.c (.p n 0))) { s with mem:=aP s.mem n (some z) } := _root_.id rfl
theorem aFU {n:Nat} {z:List AC} : aR sp (some n) (.alloc z) s K=A8 (s.mem n) n z s K:=by
 unfold aR
 simp only [aC]
 cases s.mem n<;>rfl
def B9 (a:AV) (m:Option (List AC)) (n:Nat) (s:St) (K:AV->St->Prop):Prop:=
 match a,m with
 | .o a,none=>a.ok=true/\K (.o (.c (.p n 0))) { s with mem:=aP s.mem n (some a.cells) }
 | _,_=>False
theorem aD5 {n:Nat} {a:AP} : B9 (.o a) none n s K=(a.ok=true/\K (.o (.c (.p n 0))) { s with mem:=aP s.mem n (some a.cells) }):=_root_.id rfl
theorem aOA {n:Nat} {x:SA} : aR sp (some n) (.box x) s K=B9 (x.ev s) (s.mem n) n s K:=by
 unfold aR
 simp only [aC]
 cases x.ev s with
 | t l=>rfl
 | io _ _ _=>rfl
 | o a=>
  dsimp only [AV.part]
  cases hm:s.mem n with
  | some _=>rfl
  | none=>exact jS
def wA (s:St):List AC->List (Nat×Nat×SA)->(List AC->Prop)->Prop
 | cs,[],K=>K cs
 | cs,(off,size,x)::rest,K=>
  match x.ev s with
  | .o a=>(a.ok=true/\a.cells.length=size/\off+size<=cs.length)/\wA s (kH cs off a.cells) rest K
  | _=>False
def I6 (a:AV) (s:St) (cs:List AC) (off size:Nat) (rest:List (Nat×Nat×SA)) (K:List AC->Prop):Prop:=
 match a with
 | .o a=>(a.ok=true/\a.cells.length=size/\off+size<=cs.length)/\wA s (kH cs off a.cells) rest K
 | _=>False
theorem aK6 {a:AP} {cs:List AC} {off size:Nat} {rest:List (Nat×Nat×SA)} {K:List AC->Prop} : I6 (.o a) s cs off size rest K=((a.ok=true/\a.cells.length=size/\off+size<=cs.length)/\wA s (kH cs off a.cells) rest K):=_root_.id rfl
theorem aMs {cs:List AC} {K:List AC->Prop} : wA s cs [] K=K cs:=_root_.id rfl
theorem aNt {cs:List AC} {off size:Nat} {x:SA} {rest:List (Nat×Nat×SA)} {K:List AC->Prop} : wA s cs ((off,size,x)::rest) K=I6 (x.ev s) s cs off size rest K:=_root_.id rfl
theorem Og {K:List AC->Prop} : ∀ {ps:List (Nat×Nat×SA)} {cs:List AC},(match eZ s cs ps with | some l=>K l | none=>False)=wA s cs ps K
 | [],cs=>rfl
 | (off,size,x)::ps,cs=>by
  simp only [eZ,wA]
  cases x.ev s with
  | t l=>rfl
  | io _ _ _=>rfl
  | o a=>
   dsimp only [AV.part]
   by_cases h:a.ok=true/\a.cells.length=size/\off+size<=cs.length
   ·rw [if_pos h,Og (ps:=ps)]
    exact propext ⟨fun h'=>⟨h,h'⟩,fun h'=>h'.2⟩
   ·rw [if_neg h]
    exact propext ⟨fun h'=>h'.elim,fun h'=>h h'.1⟩
def Ze (s:St) (K:AV->St->Prop) (cs:List AC):Prop:=K (.o (.g cs)) s
theorem aGm {cs:List AC} : Ze s K cs=K (.o (.g cs)) s:=_root_.id rfl
theorem aIw {z:List AC} {ps:List (Nat×Nat×SA)} : aR sp d (.build z ps) s K=wA s z ps (Ze s K):=by
 rw [← Og]
 unfold aR
 simp only [aC]
 cases eZ s z ps<;>rfl
def Xp (a:Option AC) (size:Nat) (s:St) (K:AV->St->Prop):Prop:=
 match a with
 | some a=>size=1/\K (.o (.c a)) s
 | none=>False
theorem aJ4 {a:AC} {size:Nat} : Xp (some a) size s K=(size=1/\K (.o (.c a)) s):=_root_.id rfl
def fU (agg:Bool) (size off:Nat) (m:Option (List AC)) (s:St) (K:AV->St->Prop):Prop:=
 match m,agg with
 | some cs,true=>off+size<=cs.length/\K (.o (.g ((cs.drop off).take size))) s
 | some cs,false=>off+size<=cs.length/\Xp cs[off]? size s K
 | none,_=>False
theorem aPg {size off:Nat} {cs:List AC} : fU true size off (some cs) s K=(off+size<=cs.length/\K (.o (.g ((cs.drop off).take size))) s):=_root_.id rfl
theorem V7 {size off:Nat} {cs:List AC} : fU false size off (some cs) s K=(off+size<=cs.length/\Xp cs[off]? size s K):=_root_.id rfl
theorem R9 {s:St} {K:AV->St->Prop} {agg:Bool} {size off:Nat} {cs:List AC} : sO (if off+size<=cs.length then
 if agg then some (.o (.g ((cs.drop off).take size)),s)
 else match cs[off]? with
  | some a=>if size=1 then some (.o (.c a),s) else none
  | none=>none
 else none) K=fU agg size off (some cs) s K:=by
 rw [wD]
 cases agg with
 | true=>rfl
 | false=>
  rw [V7]
  simp only [Bool.false_eq_true,if_false]
  cases cs[off]? with
  | none=>rfl
  | some a=>dsimp only;rw [jS];rfl
def Oa (p:AV) (agg:Bool) (size:Nat) (nm:Option Nat) (s:St) (K:AV->St->Prop):Prop:=
 match p with
 | .o (.c (.p n off))=>nm=some n/\fU agg size off (s.mem n) s K
 | .o (.c (.k x))=>agg=false/\size=1/\K (.o (.c (.v x))) s
 | .o (.c (.kq cs))=>fU agg size 0 (some (cs.map (·.ac))) s K
 | _=>False
theorem D6 {n off size:Nat} {agg:Bool} {nm:Option Nat} : Oa (.o (.c (.p n off))) agg size nm s K=(nm=some n/\fU agg size off (s.mem n) s K):=_root_.id rfl
theorem F8 {x:Value} {size:Nat} {agg:Bool} {nm:Option Nat} : Oa (.o (.c (.k x))) agg size nm s K=(agg=false/\size=1/\K (.o (.c (.v x))) s):=_root_.id rfl
theorem L1 {cs:List QC} {size:Nat} {agg:Bool} {nm:Option Nat} : Oa (.o (.c (.kq cs))) agg size nm s K=fU agg size 0 (some (cs.map (·.ac))) s K:=_root_.id rfl
theorem aFR {agg:Bool} {size:Nat} {p:SA} {nm:Option Nat} : aR sp d (.load agg size p nm) s K=Oa (p.ev s) agg size nm s K:=by
 unfold aR
 simp only [aC]
 cases p.ev s with
 | t l=>rfl
 | io _ _ _=>rfl
 | o a=>
  cases a with
  | g cs=>rfl
  | c a=>
   cases a with
   | p n off=>
    dsimp only
    rw [wD,D6]
    cases s.mem n with
    | none=>cases agg<;>rfl
    | some cs=>dsimp only;congr 1;exact R9
   | k x=>
    dsimp only
    rw [F8]
    cases agg with
    | true=>simp [aMk]
    | false=>simp only [Bool.false_eq_true,if_false];rw [jS];simp
   | kq cs=>
    dsimp only
    rw [L1,← R9]
    simp only [Nat.zero_add,List.length_map,List.drop_zero,List.map_take,List.getElem?_map]
    congr 2
    cases agg with
    | true=>simp
    | false=>simp only [Bool.false_eq_true,if_false];cases cs[0]? <;> rfl
   | _=>rfl
def Ue (m:Option (List AC)) (a:AP) (n off size:Nat) (s:St) (K:AV->St->Prop):Prop:=
 match m with
 | some cs=>(a.cells.length=size/\off+size<=cs.length/\a.cells.all (·.known)=true)/\K (.o (.c .u)) { s with mem:=aP s.mem n (some (kH cs off a.cells)) }
 | none=>False
theorem aGS {cs:List AC} {a:AP} {n off size:Nat} : Ue (some cs) a n off size s K=((a.cells.length=size/\off+size<=cs.length/\a.cells.all (·.known)=true)/\K (.o (.c .u)) { s with mem:=aP s.mem n (some (kH cs off a.cells)) }):=_root_.id rfl
def E5 (p x:AV) (n size:Nat) (s:St) (K:AV->St->Prop):Prop:=
 match p,x with
 | .o (.c (.p m off)),.o a=>n=m/\Ue (s.mem m) a m off size s K
 | _,_=>False
theorem Y9 {a:AP} {m n off size:Nat} : E5 (.o (.c (.p m off))) (.o a) n size s K=(n=m/\Ue (s.mem m) a m off size s K):=_root_.id rfl
theorem aLA {size n:Nat} {p x:SA} : aR sp d (.store size p x n) s K=E5 (p.ev s) (x.ev s) n size s K:=by
 unfold aR
 simp only [aC]
 cases p.ev s with
 | t l=>rfl
 | io _ _ _=>rfl
 | o q=>
  cases q with
  | g cs=>rfl
  | c q=>
   cases q with
   | p m off=>
    cases x.ev s with
    | t l=>rfl
    | io _ _ _=>rfl
    | o a=>
     dsimp only [AV.ptr,AV.part]
     rw [wD,Y9]
     cases s.mem m with
     | none=>rfl
     | some cs=>dsimp only;rw [jS];rfl
   | _=>rfl
def Um (p:AV) (off:Nat) (s:St) (K:AV->St->Prop):Prop:=
 match p with
 | .o (.c (.p n o))=>K (.o (.c (.p n (o+off)))) s
 | .o (.c (.kq cs))=>K (.o (.c (.kq (cs.drop off)))) s
 | _=>False
theorem aHo {n o off:Nat} : Um (.o (.c (.p n o))) off s K=K (.o (.c (.p n (o+off)))) s:=_root_.id rfl
theorem aRA {cs:List QC} {off:Nat} : Um (.o (.c (.kq cs))) off s K=K (.o (.c (.kq (cs.drop off)))) s:=_root_.id rfl
theorem aFk {off:Nat} {p:SA} : aR sp d (.aI off p) s K=Um (p.ev s) off s K:=by
 unfold aR
 simp only [aC]
 cases p.ev s with
 | t l=>rfl
 | io _ _ _=>rfl
 | o a=>
  cases a with
  | g cs=>rfl
  | c a=>cases a<;>rfl
def Jo (a:Option AC) (s:St) (K:AV->St->Prop):Prop:=
 match a with
 | some a=>K (.o (.c a)) s
 | none=>False
theorem aPP {a:AC} : Jo (some a) s K=K (.o (.c a)) s:=_root_.id rfl
def We (x:AV) (agg:Bool) (off size:Nat) (s:St) (K:AV->St->Prop):Prop:=
 match x,agg with
 | .o (.g cs),true=>off+size<=cs.length/\K (.o (.g ((cs.drop off).take size))) s
 | .o (.g cs),false=>off+size<=cs.length/\Jo cs[off]? s K
 | _,_=>False
theorem aGP {cs:List AC} {off size:Nat} : We (.o (.g cs)) true off size s K=(off+size<=cs.length/\K (.o (.g ((cs.drop off).take size))) s):=_root_.id rfl
theorem Ys {cs:List AC} {off size:Nat} : We (.o (.g cs)) false off size s K=(off+size<=cs.length/\Jo cs[off]? s K):=_root_.id rfl
theorem aEa {agg:Bool} {off size:Nat} {x:SA} : aR sp d (.part agg off size x) s K=We (x.ev s) agg off size s K:=by
 unfold aR
 simp only [aC]
 cases x.ev s with
 | t l=>cases agg<;>rfl
 | io _ _ _=>cases agg<;>rfl
 | o a=>
  cases a with
  | c a=>cases agg<;>rfl
  | g cs=>
   dsimp only [AV.agg]
   rw [wD]
   cases agg with
   | true=>rfl
   | false=>
    rw [Ys]
    simp only [Bool.false_eq_true,if_false]
    cases cs[off]? <;> rfl
def vK (s:St) (K:AV->St->Prop) (v:Value):Prop:=K (.o (.c (.v v))) s
theorem aHq {v:Value} : vK s K v=K (.o (.c (.v v))) s:=_root_.id rfl
def gZ (op:BinOp) (x y:AV) (K:Value->Prop):Prop:=
 match x,y with
 | .o (.c (.v (.int k a))),.o (.c (.v (.int k' b)))=>
  match op with
  | .shl=>0<=b/\K (.int k (k.wrap (a*2 ^ min b.toNat k.bits)))
  | .shr=>0<=b/\K (.int k (a.fdiv (2 ^ min b.toNat k.bits)))
  | .add=>k=k'/\K (.int k (k.wrap (a+b)))
  | .sub=>k=k'/\K (.int k (k.wrap (a-b)))
  | .mul=>k=k'/\K (.int k (k.wrap (a*b)))
  | .quo=>k=k'/\b≠0/\K (.int k (k.wrap (a.tdiv b)))
  | .rem=>k=k'/\b≠0/\K (.int k (a.tmod b))
  | .and=>k=k'/\K (.int k (cX .and k a b))
  | .or=>k=k'/\K (.int k (cX .or k a b))
  | .xor=>k=k'/\K (.int k (cX .xor k a b))
  | .andNot=>k=k'/\K (.int k (cX .andNot k a b))
  | .eql=>k=k'/\K (.bool (decide (a=b)))
  | .neq=>k=k'/\K (.bool (decide (a≠b)))
  | .lss=>k=k'/\K (.bool (decide (a<b)))
  | .leq=>k=k'/\K (.bool (decide (a<=b)))
  | .gtr=>k=k'/\K (.bool (decide (b<a)))
  | .geq=>k=k'/\K (.bool (decide (b<=a)))
 | _,_=>False
section
variable {k k':IntKind} {a b:Int} {K:Value->Prop}
theorem aGq:gZ .shl (.o (.c (.v (.int k a)))) (.o (.c (.v (.int k' b)))) K=(0<=b/\K (.int k (k.wrap (a*2 ^ min b.toNat k.bits)))):=_root_.id rfl
theorem aFb:gZ .shr (.o (.c (.v (.int k a)))) (.o (.c (.v (.int k' b)))) K=(0<=b/\K (.int k (a.fdiv (2 ^ min b.toNat k.bits)))):=_root_.id rfl
theorem aOm:gZ .add (.o (.c (.v (.int k a)))) (.o (.c (.v (.int k' b)))) K=(k=k'/\K (.int k (k.wrap (a+b)))):=_root_.id rfl
theorem aH4:gZ .sub (.o (.c (.v (.int k a)))) (.o (.c (.v (.int k' b)))) K=(k=k'/\K (.int k (k.wrap (a-b)))):=_root_.id rfl
theorem aI8:gZ .mul (.o (.c (.v (.int k a)))) (.o (.c (.v (.int k' b)))) K=(k=k'/\K (.int k (k.wrap (a*b)))):=_root_.id rfl
theorem aKw:gZ .quo (.o (.c (.v (.int k a)))) (.o (.c (.v (.int k' b)))) K=(k=k'/\b≠0/\K (.int k (k.wrap (a.tdiv b)))):=_root_.id rfl
theorem aB0:gZ .rem (.o (.c (.v (.int k a)))) (.o (.c (.v (.int k' b)))) K=(k=k'/\b≠0/\K (.int k (a.tmod b))):=_root_.id rfl
theorem aOT:gZ .and (.o (.c (.v (.int k a)))) (.o (.c (.v (.int k' b)))) K=(k=k'/\K (.int k (cX .and k a b))):=_root_.id rfl
theorem aLP:gZ .or (.o (.c (.v (.int k a)))) (.o (.c (.v (.int k' b)))) K=(k=k'/\K (.int k (cX .or k a b))):=_root_.id rfl
theorem aIp:gZ .xor (.o (.c (.v (.int k a)))) (.o (.c (.v (.int k' b)))) K=(k=k'/\K (.int k (cX .xor k a b))):=_root_.id rfl
theorem aCO:gZ .andNot (.o (.c (.v (.int k a)))) (.o (.c (.v (.int k' b)))) K=(k=k'/\K (.int k (cX .andNot k a b))):=_root_.id rfl
theorem aFF:gZ .eql (.o (.c (.v (.int k a)))) (.o (.c (.v (.int k' b)))) K=(k=k'/\K (.bool (decide (a=b)))):=_root_.id rfl
theorem aRC:gZ .neq (.o (.c (.v (.int k a)))) (.o (.c (.v (.int k' b)))) K=(k=k'/\K (.bool (decide (a≠b)))):=_root_.id rfl
theorem aHC:gZ .lss (.o (.c (.v (.int k a)))) (.o (.c (.v (.int k' b)))) K=(k=k'/\K (.bool (decide (a<b)))):=_root_.id rfl
theorem aLg:gZ .leq (.o (.c (.v (.int k a)))) (.o (.c (.v (.int k' b)))) K=(k=k'/\K (.bool (decide (a<=b)))):=_root_.id rfl
theorem aBU:gZ .gtr (.o (.c (.v (.int k a)))) (.o (.c (.v (.int k' b)))) K=(k=k'/\K (.bool (decide (b<a)))):=_root_.id rfl
theorem aGp:gZ .geq (.o (.c (.v (.int k a)))) (.o (.c (.v (.int k' b)))) K=(k=k'/\K (.bool (decide (b<=a)))):=_root_.id rfl
end
theorem aGj {op:BinOp} {x y:Value} {K:Value->Prop} : (match sM op x y with | some v=>K v | none=>False)=gZ op (.o (.c (.v x))) (.o (.c (.v y))) K:=by
 cases x with
 | int k a=>
  cases y with
  | int k' b=>
   simp only [sM,gZ]
   by_cases hk:k=k'
   ·subst hk
    cases op<;>simp only [Ii,if_true,true_and,bne,gt_iff_lt,ge_iff_le]<;>first
     | (rfl;done)
     | (by_cases h:b<0
        ·rw [if_pos h];simp [show ¬ (0<=b) by omega]
        ·rw [if_neg h];simp [show 0<=b by omega])
     | (by_cases h:b=0
        ·rw [if_pos h];simp [h]
         done
        ·rw [if_neg h];simp [h]
         done)
     | (by_cases h:a=b
        ·subst h;simp
        ·have h2:(a==b)=false:=by simpa using h
         simp [h,h2])
   ·cases op<;>simp only [hk,if_false,false_and] <;>
     (by_cases h:b<0
      ·rw [if_pos h];simp [show ¬ (0<=b) by omega]
      ·rw [if_neg h];simp [show 0<=b by omega])
  | _=>simp only [sM,gZ]
 | _=>simp only [sM,gZ]
theorem aJs {op:BinOp} {x y:SA} : aR sp d (.bin op x y) s K=gZ op (x.ev s) (y.ev s) (vK s K):=by
 unfold aR
 simp only [aC]
 cases x.ev s with
 | t l=>rfl
 | io _ _ _=>rfl
 | o a=>
  cases a with
  | g cs=>rfl
  | c a=>
   cases a with
   | v a=>
    cases y.ev s with
    | t l=>cases a<;>rfl
    | io _ _ _=>cases a<;>rfl
    | o b=>
     cases b with
     | g cs=>cases a<;>rfl
     | c b=>
      cases b with
      | v b=>
       rw [← aGj]
       dsimp only [AV.val]
       cases sM op a b<;>rfl
      | _=>cases a<;>rfl
   | _=>rfl
def aAK (ne:Bool) (x y:AV) (s:St) (K:AV->St->Prop):Prop:=
 match x,y with
 | .o (.c (.v (.bool a))),.o (.c (.v (.bool b)))=>K (.o (.c (.v (.bool (if ne then !(a==b) else a==b))))) s
 | _,_=>False
theorem aHG {ne a b:Bool} : aAK ne (.o (.c (.v (.bool a)))) (.o (.c (.v (.bool b)))) s K=K (.o (.c (.v (.bool (if ne then !(a==b) else a==b))))) s:=_root_.id rfl
theorem aOa {ne:Bool} {x y:SA} : aR sp d (.qD ne x y) s K=aAK ne (x.ev s) (y.ev s) s K:=by
 unfold aR
 simp only [aC]
 cases x.ev s with
 | t l=>rfl
 | io _ _ _=>rfl
 | o a=>
  cases a with
  | g cs=>rfl
  | c a=>
   cases a with
   | v a=>
    cases y.ev s with
    | t l=>cases a<;>rfl
    | io _ _ _=>cases a<;>rfl
    | o b=>
     cases b with
     | g cs=>cases a<;>rfl
     | c b=>
      cases b with
      | v b=>cases a<;>first | rfl |(cases b<;>rfl)
      | _=>cases a<;>rfl
   | _=>rfl
def Ws (ne:Bool) (s:St) (K:AV->St->Prop) (r:Option Bool):Prop:=
 match r with
 | some r=>K (.o (.c (.v (.bool (if ne then !r else r))))) s
 | none=>False
theorem aN3 {ne r:Bool} : Ws ne s K (some r)=K (.o (.c (.v (.bool (if ne then !r else r))))) s:=_root_.id rfl
def M4 (ne:Bool) (ks:List IntKind) (x y:AV) (s:St) (K:AV->St->Prop):Prop:=
 match x,y with
 | .o (.g aRR),.o (.g bs)=>Ws ne s K (bJ ks aRR bs)
 | _,_=>False
theorem B6 {ne:Bool} {ks:List IntKind} {x y:List AC} : M4 ne ks (.o (.g x)) (.o (.g y)) s K=Ws ne s K (bJ ks x y):=_root_.id rfl
theorem aDu {ne:Bool} {ks:List IntKind} {x y:SA} : aR sp d (.eqs ne ks x y) s K=M4 ne ks (x.ev s) (y.ev s) s K:=by
 unfold aR
 simp only [aC]
 cases x.ev s with
 | t l=>rfl
 | io _ _ _=>rfl
 | o a=>
  cases a with
  | c a=>rfl
  | g xs=>
   cases y.ev s with
   | t l=>rfl
   | io _ _ _=>rfl
   | o b=>
    cases b with
    | c b=>rfl
    | g ys=>
     rw [B6]
     dsimp only [AV.agg]
     cases bJ ks xs ys<;>rfl
def P0 (x:AV) (s:St) (K:AV->St->Prop):Prop:=
 match x with
 | .o (.c (.v (.bool a)))=>K (.o (.c (.v (.bool !a)))) s
 | _=>False
theorem aFK {a:Bool} : P0 (.o (.c (.v (.bool a)))) s K=K (.o (.c (.v (.bool !a)))) s:=_root_.id rfl
theorem aIa {x:SA} : aR sp d (.not x) s K=P0 (x.ev s) s K:=by
 unfold aR
 simp only [aC]
 cases x.ev s with
 | t l=>rfl
 | io _ _ _=>rfl
 | o a=>
  cases a with
  | g cs=>rfl
  | c a=>
   cases a with
   | v a=>cases a<;>rfl
   | _=>rfl
def S4 (x:AV) (s:St) (K:AV->St->Prop):Prop:=
 match x with
 | .o (.c (.v (.int k a)))=>K (.o (.c (.v (.int k (k.wrap (0-a)))))) s
 | _=>False
theorem aC6 {k:IntKind} {a:Int} : S4 (.o (.c (.v (.int k a)))) s K=K (.o (.c (.v (.int k (k.wrap (0-a)))))) s:=_root_.id rfl
theorem aHH {x:SA} : aR sp d (.neg x) s K=S4 (x.ev s) s K:=by
 unfold aR
 simp only [aC]
 cases x.ev s with
 | t l=>rfl
 | io _ _ _=>rfl
 | o a=>
  cases a with
  | g cs=>rfl
  | c a=>
   cases a with
   | v a=>cases a<;>rfl
   | _=>rfl
def K9 (k:IntKind) (x:AV) (s:St) (K:AV->St->Prop):Prop:=
 match x with
 | .o (.c (.v (.int _ a)))=>K (.o (.c (.v (.int k (k.wrap a))))) s
 | _=>False
theorem aQf {k k':IntKind} {a:Int} : K9 k (.o (.c (.v (.int k' a)))) s K=K (.o (.c (.v (.int k (k.wrap a))))) s:=_root_.id rfl
theorem aIj {k:IntKind} {x:SA} : aR sp d (.cH k x) s K=K9 k (x.ev s) s K:=by
 unfold aR
 simp only [aC]
 cases x.ev s with
 | t l=>rfl
 | io _ _ _=>rfl
 | o a=>
  cases a with
  | g cs=>rfl
  | c a=>
   cases a with
   | v a=>cases a<;>rfl
   | _=>rfl
def Wq (a:Option AP) (s:St) (K:AV->St->Prop):Prop:=
 match a with
 | some a=>K (.o a) s
 | none=>False
theorem aO7 {a:AP} : Wq (some a) s K=K (.o a) s:=_root_.id rfl
def aBb (x:AV) (i:Nat) (s:St) (K:AV->St->Prop):Prop:=
 match x with
 | .t l=>Wq l[i]? s K
 | _=>False
theorem C7 {l:List AP} {i:Nat} : aBb (.t l) i s K=Wq l[i]? s K:=_root_.id rfl
theorem aCW {x:SA} {i:Nat} : aR sp d (.ext x i) s K=aBb (x.ev s) i s K:=by
 unfold aR
 simp only [aC]
 cases x.ev s with
 | o a=>rfl
 | t l=>rw [C7];dsimp only;cases l[i]? <;> rfl
 | io _ _ _=>rfl
def jR (o:Option AV) (s:St) (K:AV->St->Prop):Prop:=
 match o with
 | some r=>r.free=true/\K r s
 | none=>False
theorem aMb {r:AV} : jR (some r) s K=(r.free=true/\K r s):=_root_.id rfl
theorem aA7:jR none s K=False:=_root_.id rfl
theorem Hx {c:Prop} [Decidable c] {o:Option AV} : jR (if c then o else none) s K=(c/\jR o s K):=by
 by_cases h:c<;>simp [h,aA7]
theorem aI4 {c:Prop} [Decidable c] {o o':Option AV} : jR (if c then o else o') s K=(if c then jR o s K else jR o' s K):=by
 by_cases h:c<;>simp [h]
def On (aRR:Option (List AP)) (sp:Spec) (f:Nat) (s:St) (K:AV->St->Prop):Prop:=
 match aRR with
 | some aRR=>aRR.all (·.free)=true/\jR (sp f (aRR.map AP.wk)) s K
 | none=>False
theorem Tj {f:Nat} {x:List AP} : On (some x) sp f s K=(x.all (·.free)=true/\jR (sp f (x.map AP.wk)) s K):=_root_.id rfl
theorem Vs {o:Option AV} : sO (match o with | some r=>if r.free=true then some (r,s) else none | none=>none) K=jR o s K:=by
 cases o with
 | none=>rfl
 | some r=>exact jS
theorem aKt {f:Nat} {args:List SA} : aR sp d (.call f args) s K=On (dC s args) sp f s K:=by
 unfold aR
 simp only [aC]
 cases dC s args with
 | none=>rfl
 | some x=>
  rw [Tj]
  dsimp only
  rw [wD];congr 1;exact Vs
def Z4 (aRR:Option (List AP)) (sp:Spec) (f:Nat) (args:List SA) (s:St) (K:AV->St->Prop):Prop:=
 match aRR with
 | some as0=>On (dC (s.hY (tX s as0)) args) sp f (s.hY (tX s as0)) K
 | none=>False
theorem X8 {f:Nat} {args:List SA} {x:List AP} : Z4 (some x) sp f args s K=On (dC (s.hY (tX s x)) args) sp f (s.hY (tX s x)) K:=_root_.id rfl
theorem aOn {f:Nat} {args:List SA} : aR sp d (.lO f args) s K=Z4 (dC s args) sp f args s K:=by
 unfold aR
 simp only [aC]
 cases dC s args with
 | none=>rfl
 | some as0=>
  rw [X8]
  dsimp only
  cases dC (s.hY (tX s as0)) args with
  | none=>rfl
  | some x=>
   rw [Tj]
   dsimp only
   rw [wD];congr 1;exact Vs
def X3 (n:Option Nat) (s:St) (K:AV->St->Prop):Prop:=
 match n with
 | some n=>K (.o (.c (.v (.int .i64 n)))) s
 | none=>False
theorem aQ8 {n:Nat} : X3 (some n) s K=K (.o (.c (.v (.int .i64 n)))) s:=_root_.id rfl
theorem aKM {x:SA} : aR sp d (.len x) s K=X3 (x.ev s).zJ s K:=by
 unfold aR
 simp only [aC]
 cases (x.ev s).zJ<;>rfl
def Nh (i x:AV) (m:Nat) (s:St) (K:AV->St->Prop):Prop:=
 match i with
 | .o (.c (.v (.int _ j)))=>(match x with
  | .o (.c (.s t n len))=>(t.m=m/\0<=j/\j<len)/\K (.o (.c (.p n (j.toNat*m)))) s
  | .o (.c (.r e l))=>(m=1/\0<=j/\j<l.length)/\K (.o (.c (.k (.int e (l.getD j.toNat 0))))) s
  | .o (.c (.q m' cs))=>(m'=m/\0<=j/\j.toNat*m+m<=cs.length/\0<m)/\K (.o (.c (.kq (cs.drop (j.toNat*m))))) s
  | _=>False)
 | _=>False
section
variable {k:IntKind} {j:Int} {m:Nat}
theorem aJt {t:RT} {n len:Nat} : Nh (.o (.c (.v (.int k j)))) (.o (.c (.s t n len))) m s K=((t.m=m/\0<=j/\j<len)/\K (.o (.c (.p n (j.toNat*m)))) s):=_root_.id rfl
theorem aRx {e:IntKind} {l:List Int} : Nh (.o (.c (.v (.int k j)))) (.o (.c (.r e l))) m s K=((m=1/\0<=j/\j<l.length)/\K (.o (.c (.k (.int e (l.getD j.toNat 0))))) s):=_root_.id rfl
theorem aKr {m':Nat} {cs:List QC} : Nh (.o (.c (.v (.int k j)))) (.o (.c (.q m' cs))) m s K=((m'=m/\0<=j/\j.toNat*m+m<=cs.length/\0<m)/\K (.o (.c (.kq (cs.drop (j.toNat*m))))) s):=_root_.id rfl
end
theorem aMJ {m:Nat} {x i:SA} : aR sp d (.idx m x i) s K=Nh (i.ev s) (x.ev s) m s K:=by
 unfold aR
 simp only [aC]
 cases i.ev s with
 | t l=>rfl
 | io _ _ _=>rfl
 | o a=>
  cases a with
  | g cs=>rfl
  | c a=>
   cases a with
   | v v=>
    cases v with
    | int k j=>
     dsimp only [AV.val]
     cases x.ev s with
     | t l=>rfl
     | io _ _ _=>rfl
     | o a=>
      cases a with
      | g cs=>rfl
      | c a=>cases a<;>first | rfl | exact jS
    | _=>rfl
   | _=>rfl
def Xb (i j:Option Int) (e:IntKind) (l:List Int) (s:St) (K:AV->St->Prop):Prop:=
 match i,j with
 | some i,some j=>(0<=i/\i<=j/\j<=l.length)/\K (.o (.c (.r e ((l.take j.toNat).drop i.toNat)))) s
 | _,_=>False
theorem aL0 {i j:Int} {e:IntKind} {l:List Int} : Xb (some i) (some j) e l s K=((0<=i/\i<=j/\j<=l.length)/\K (.o (.c (.r e ((l.take j.toNat).drop i.toNat)))) s):=_root_.id rfl
def Ua (i j:Option Int) (e:IntKind) (s:St) (K:AV->St->Prop):Prop:=
 match i,j with
 | some i,some j=>(0<=i/\i<=j/\j<=0)/\K (.o (.c (.nil e))) s
 | _,_=>False
theorem aRG {i j:Int} {e:IntKind} : Ua (some i) (some j) e s K=((0<=i/\i<=j/\j<=0)/\K (.o (.c (.nil e))) s):=_root_.id rfl
def Tv (i j:Option Int) (t:RT) (n len:Nat) (s:St) (K:AV->St->Prop):Prop:=
 match i,j with
 | some i,some j=>(i=0/\0<=j/\j<=len)/\K (.o (.c (.s t n j.toNat))) s
 | _,_=>False
theorem aBI {i j:Int} {t:RT} {n len:Nat} : Tv (some i) (some j) t n len s K=((i=0/\0<=j/\j<=len)/\K (.o (.c (.s t n j.toNat))) s):=_root_.id rfl
def Nd (x:AV) (lo hi:Option SA) (s:St) (K:AV->St->Prop):Prop:=
 match x with
 | .o (.c (.r e l))=>Xb (bO s lo 0) (bO s hi l.length) e l s K
 | .o (.c (.nil e))=>Ua (bO s lo 0) (bO s hi 0) e s K
 | .o (.c (.s t n len))=>Tv (bO s lo 0) (bO s hi len) t n len s K
 | _=>False
theorem Yt {lo hi:Option SA} {e:IntKind} {l:List Int} : Nd (.o (.c (.r e l))) lo hi s K=Xb (bO s lo 0) (bO s hi l.length) e l s K:=_root_.id rfl
theorem M5 {lo hi:Option SA} {e:IntKind} : Nd (.o (.c (.nil e))) lo hi s K=Ua (bO s lo 0) (bO s hi 0) e s K:=_root_.id rfl
theorem aAN {lo hi:Option SA} {t:RT} {n len:Nat} : Nd (.o (.c (.s t n len))) lo hi s K=Tv (bO s lo 0) (bO s hi len) t n len s K:=_root_.id rfl
theorem aCd {x:SA} {lo hi:Option SA} : aR sp d (.sl x lo hi) s K=Nd (x.ev s) lo hi s K:=by
 unfold aR
 simp only [aC]
 cases x.ev s with
 | t l=>rfl
 | io _ _ _=>rfl
 | o a=>
  cases a with
  | g cs=>rfl
  | c a=>
   cases a with
   | r e l=>
    rw [Yt]
    dsimp only
    cases bO s lo 0 with
    | none=>rfl
    | some i=>
     cases bO s hi l.length with
     | none=>rfl
     | some j=>exact jS
   | nil e=>
    rw [M5]
    dsimp only
    cases bO s lo 0 with
    | none=>rfl
    | some i=>
     cases bO s hi 0 with
     | none=>rfl
     | some j=>exact jS
   | s t n len=>
    rw [aAN]
    dsimp only
    cases bO s lo 0 with
    | none=>rfl
    | some i=>
     cases bO s hi len with
     | none=>rfl
     | some j=>exact jS
   | _=>rfl
def Yu (x:AV) (n:Option Value) (m:Option (List AC)) (d:Nat) (t:RT) (s:St) (K:AV->St->Prop):Prop:=
 match x,n,m with
 | .o (.c (.nil _)),some (.int .i64 j),none=>(0<j/\j<=1000000000)/\K (.o (.c (.s t d j.toNat))) { s with mem:=aP s.mem d (some []) }
 | _,_,_=>False
theorem aNG {e:IntKind} {j:Int} {d:Nat} {t:RT} : Yu (.o (.c (.nil e))) (some (.int .i64 j)) none d t s K=((0<j/\j<=1000000000)/\K (.o (.c (.s t d j.toNat))) { s with mem:=aP s.mem d (some []) }):=_root_.id rfl
theorem aB7 {d:Nat} {t:RT} {x n:SA} : aR sp (some d) (.Bl t x n) s K=Yu (x.ev s) (n.ev s).val (s.mem d) d t s K:=by
 unfold aR
 simp only [aC]
 cases x.ev s with
 | t l=>rfl
 | io _ _ _=>rfl
 | o a=>
  cases a with
  | g cs=>rfl
  | c a=>
   cases a with
   | nil e=>
    cases (n.ev s).val with
    | none=>rfl
    | some v=>
     cases v with
     | int k j=>
      cases k with
      | i64=>
       dsimp only
       cases s.mem d with
       | some _=>rfl
       | none=>exact jS
      | _=>rfl
     | _=>rfl
   | _=>rfl
def aSn (x:AV) (s:St) (K:AV->St->Prop):Prop:=
 match x with
 | .o (.c (.nil _))=>K (.o (.c (.v (.int .i64 0)))) s
 | _=>False
theorem aOb {e:IntKind} : aSn (.o (.c (.nil e))) s K=K (.o (.c (.v (.int .i64 0)))) s:=_root_.id rfl
theorem aEZ {x:SA} : aR sp d (.cap x) s K=aSn (x.ev s) s K:=by
 unfold aR
 simp only [aC]
 cases x.ev s with
 | t l=>rfl
 | io _ _ _=>rfl
 | o a=>
  cases a with
  | g cs=>rfl
  | c a=>cases a<;>rfl
def Vm (r:Option AV) (m:Option (List AC)) (d:Nat) (s:St) (K:AV->St->Prop):Prop:=
 match m,r with
 | none,some (.o (.c (.s t _ 0)))=>K (.o (.c (.s t d 0))) { s with mem:=aP s.mem d (some []) }
 | _,_=>False
theorem aOK {t:RT} {n d:Nat} : Vm (some (.o (.c (.s t n 0)))) none d s K=K (.o (.c (.s t d 0))) { s with mem:=aP s.mem d (some []) } := _root_.id rfl
def aA9 (aRR:Option (List AP)) (sp:Spec) (f:Nat) (m:Option (List AC)) (d:Nat) (s:St) (K:AV->St->Prop):Prop:=
 match aRR with
 | some aRR=>aRR.all (·.free)=true/\Vm (sp f aRR) m d s K
 | none=>False
theorem J4 {f d:Nat} {m:Option (List AC)} {x:List AP} : aA9 (some x) sp f m d s K=(x.all (·.free)=true/\Vm (sp f x) m d s K):=_root_.id rfl
theorem aEI {n f:Nat} {args:List SA} : aR sp (some n) (.zE f args) s K=aA9 (dC s args) sp f (s.mem n) n s K:=by
 unfold aR
 simp only [aC]
 cases dC s args with
 | none=>rfl
 | some x=>
  rw [J4]
  dsimp only
  rw [wD]
  congr 1
  cases s.mem n with
  | some _=>rfl
  | none=>
   cases sp f x with
   | none=>rfl
   | some r=>
    cases r with
    | t l=>rfl
    | io _ _ _=>rfl
    | o a=>
     cases a with
     | g cs=>rfl
     | c a=>
      cases a with
      | s t m len=>cases len<;>rfl
      | _=>rfl
def E4 (x y:AV) (s:St) (K:AV->St->Prop):Prop:=
 match x,y with
 | .o (.c (.v (.int k a))),.o (.c (.v (.int _ b)))=>K (.o (.c (.v (.int k (if b<a then b else a))))) s
 | _,_=>False
theorem aP3 {k k':IntKind} {a b:Int} : E4 (.o (.c (.v (.int k a)))) (.o (.c (.v (.int k' b)))) s K=K (.o (.c (.v (.int k (if b<a then b else a))))) s:=_root_.id rfl
theorem aHP {x y:SA} : aR sp d (.min x y) s K=E4 (x.ev s) (y.ev s) s K:=by
 unfold aR
 simp only [aC]
 cases x.ev s with
 | t l=>rfl
 | io _ _ _=>rfl
 | o a=>
  cases a with
  | g cs=>rfl
  | c a=>
   cases a with
   | v a=>
    cases y.ev s with
    | t l=>cases a<;>rfl
    | io _ _ _=>cases a<;>rfl
    | o b=>
     cases b with
     | g cs=>cases a<;>rfl
     | c b=>
      cases b with
      | v b=>cases a<;>first | rfl |(cases b<;>rfl)
      | _=>cases a<;>rfl
   | _=>rfl
def E6 (l:Option (List Int)) (s:St) (K:AV->St->Prop):Prop:=
 match l with
 | some l=>K (.o (.c (.v (.string (strOfNums l))))) s
 | none=>False
theorem aQu {l:List Int} : E6 (some l) s K=K (.o (.c (.v (.string (strOfNums l))))) s:=_root_.id rfl
theorem aKO {x:SA} : aR sp d (.str x) s K=E6 ((x.ev s).row .u8) s K:=by
 unfold aR
 simp only [aC]
 cases (x.ev s).row .u8<;>rfl
def Vd (ne:Bool) (x y:AV) (s:St) (K:AV->St->Prop):Prop:=
 match x,y with
 | .o (.c (.v (.string a))),.o (.c (.v (.string b)))=>K (.o (.c (.v (.bool (if ne then !(a.toList==b.toList) else a.toList==b.toList))))) s
 | _,_=>False
theorem aNN {ne:Bool} {a b:ByteArray} : Vd ne (.o (.c (.v (.string a)))) (.o (.c (.v (.string b)))) s K=K (.o (.c (.v (.bool (if ne then !(a.toList==b.toList) else a.toList==b.toList))))) s:=_root_.id rfl
theorem aBL {ne:Bool} {x y:SA} : aR sp d (.nL ne x y) s K=Vd ne (x.ev s) (y.ev s) s K:=by
 unfold aR
 simp only [aC]
 cases x.ev s with
 | t l=>rfl
 | io _ _ _=>rfl
 | o a=>
  cases a with
  | g cs=>rfl
  | c a=>
   cases a with
   | v a=>
    cases y.ev s with
    | t l=>cases a<;>rfl
    | io _ _ _=>cases a<;>rfl
    | o b=>
     cases b with
     | g cs=>cases a<;>rfl
     | c b=>
      cases b with
      | v b=>cases a<;>first | rfl |(cases b<;>rfl)
      | _=>cases a<;>rfl
   | _=>rfl
def R6 (x:AV) (m:Option (List AC)) (n:Nat) (t:RT) (z:Value) (s:St) (K:AV->St->Prop):Prop:=
 match x,m with
 | .o (.c (.v (.int _ j))),none=>(0<=j/\j<=1000000000000)/\K (.o (.c (.s t n j.toNat))) { s with mem:=aP s.mem n (some (List.replicate j.toNat (.v z))) }
 | _,_=>False
theorem aM8 {k:IntKind} {j:Int} {n:Nat} {t:RT} {z:Value} : R6 (.o (.c (.v (.int k j)))) none n t z s K=((0<=j/\j<=1000000000000)/\K (.o (.c (.s t n j.toNat))) { s with mem:=aP s.mem n (some (List.replicate j.toNat (.v z))) }):=_root_.id rfl
theorem aOv {n:Nat} {t:RT} {z:Value} {x:SA} : aR sp (some n) (.rL t z x) s K=R6 (x.ev s) (s.mem n) n t z s K:=by
 unfold aR
 simp only [aC]
 cases x.ev s with
 | t l=>rfl
 | io _ _ _=>rfl
 | o a=>
  cases a with
  | g cs=>rfl
  | c a=>
   cases a with
   | v v=>
    cases v with
    | int k m=>
     dsimp only [AV.val]
     cases s.mem n with
     | some _=>rfl
     | none=>exact jS
    | _=>rfl
   | _=>rfl
def Oi (s:St) (n m:Nat) (t:RT) (K:AV->St->Prop) (cs:List AC):Prop:=
 match s.mem n with
 | none=>K (.o (.c (.s t n m))) { s with mem:=aP s.mem n (some cs) }
 | some _=>False
theorem aN4 {n m:Nat} {t:RT} {cs:List AC} : Oi s n m t K cs=(s.mem n=none/\K (.o (.c (.s t n m))) { s with mem:=aP s.mem n (some cs) }):=by
 unfold Oi
 cases s.mem n<;>simp
theorem aRu {n:Nat} {t:RT} {z:List AC} {m:Nat} {ps:List (Nat×Nat×SA)} : aR sp (some n) (.fX t z m ps) s K=wA s z ps (Oi s n m t K):=by
 rw [← Og]
 unfold aR
 simp only [aC]
 cases eZ s z ps with
 | none=>rfl
 | some cs=>unfold Oi;dsimp only;cases s.mem n<;>rfl
def aA4 (m:Nat) (t:RT) (s:St) (K:AV->St->Prop) (cs:List AC):Prop:=K (.o (.c (fS t m cs))) s
theorem aBM {m:Nat} {t:RT} {cs:List AC} : aA4 m t s K cs=K (.o (.c (fS t m cs))) s:=_root_.id rfl
theorem aL5 {t:RT} {z:List AC} {m:Nat} {ps:List (Nat×Nat×SA)} : aR sp d (.sG t z m ps) s K=wA s z ps (aA4 m t s K):=by
 rw [← Og]
 unfold aR
 simp only [aC]
 cases eZ s z ps with
 | none=>rfl
 | some cs=>rfl
def aBc (x y:Option (List Nat×Nat×List AC)) (n:Nat) (t:RT) (s:St) (K:AV->St->Prop):Prop:=
 match x,y with
 | some (ns,a,xs),some (ms,b,ys)=>((ns = []->0<b)/\a+b<=1000000000000/\(s.mem n=none∨n∈ns++ms)/\ys.all (·.known)=true) /\
  K (.o (.c (.s t n (a+b)))) ⟨(s.drop (ns++ms)).tm,aP (s.drop (ns++ms)).mem n (some ((xs++ys).map (·.kill (ns++ms))))⟩
 | _,_=>False
theorem aDC {ns ms:List Nat} {a b n:Nat} {xs ys:List AC} {t:RT} : aBc (some (ns,a,xs)) (some (ms,b,ys)) n t s K=(((ns = []->0<b)/\a+b<=1000000000000/\(s.mem n=none∨n∈ns++ms)/\ys.all (·.known)=true) /\
 K (.o (.c (.s t n (a+b)))) ⟨(s.drop (ns++ms)).tm,aP (s.drop (ns++ms)).mem n (some ((xs++ys).map (·.kill (ns++ms))))⟩):=_root_.id rfl
theorem aJ3 {n:Nat} {t:RT} {x y:SA} : aR sp (some n) (.app t x y) s K=aBc (fY t s (x.ev s)) (fE t.m s (y.ev s)) n t s K:=by
 unfold aR
 simp only [aC]
 cases fY t s (x.ev s) with
 | none=>rfl
 | some x=>
  obtain ⟨ns,a,xs⟩:=x
  cases fE t.m s (y.ev s) with
  | none=>rfl
  | some y=>
   obtain ⟨ms,b,ys⟩:=y
   exact jS
end
def bY (sp:Spec) (k:Nat) (c:SC) (s:St) (Q:AX->St->Prop):Prop:=cO (bQ sp k c s) Q
def pD (sp:Spec) (k:Nat) (c:SC) (n:Nat) (s:St) (Q:AX->St->Prop):Prop:=cO (iter (bQ sp k c) n s) Q
section
variable {sp:Spec} {k:Nat} {s:St}
variable {Q:AX->St->Prop}
def Mk (sp:Spec) (k:Nat) (b:SC) (Q:AX->St->Prop):AX->St->Prop
 | .n,s=>bY sp k b s Q
 | .e i,s=>Q (.e i) s
 | .r,s=>Q .r s
theorem aDX {b:SC} : Mk sp k b Q .n s=bY sp k b s Q:=_root_.id rfl
theorem aLE {b:SC} {i:Nat} : Mk sp k b Q (.e i) s=Q (.e i) s:=_root_.id rfl
theorem aE2 {b:SC} : Mk sp k b Q .r s=Q .r s:=_root_.id rfl
theorem aHR:bY sp k .skip s Q=Q .n s:=_root_.id rfl
theorem aP9 {i:Nat} : bY sp k (.exit i) s Q=Q (.e i) s:=_root_.id rfl
theorem aG0:bY sp k .ret s Q=Q .r s:=_root_.id rfl
theorem fL {a b:SC} : bY sp k (.seq a b) s Q=bY sp k a s (Mk sp k b Q):=by
 unfold bY
 rw [o4]
 congr 1
theorem fJ {id:Nat} {a:SC} : bY sp k (.block id a) s Q=bY sp k a s (inBlock id Q):=W4
def D0 (c:AV) (sp:Spec) (k:Nat) (a b:SC) (s:St) (Q:AX->St->Prop):Prop:=
 match c with
 | .o (.c (.v (.bool t)))=>if t=true then bY sp k a s Q else bY sp k b s Q
 | _=>False
theorem J5 {t:Bool} {a b:SC} : D0 (.o (.c (.v (.bool t)))) sp k a b s Q=(if t=true then bY sp k a s Q else bY sp k b s Q):=_root_.id rfl
theorem aIn {c:SA} {a b:SC} : bY sp k (.cond c a b) s Q=D0 (c.ev s) sp k a b s Q:=by
 unfold bY
 rw [D2]
 cases c.ev s with
 | t l=>rfl
 | io _ _ _=>rfl
 | o x=>
  cases x with
  | g cs=>rfl
  | c x=>
   cases x with
   | v x=>
    cases x with
    | bool t=>rw [J5];cases t<;>rfl
    | _=>rfl
   | _=>rfl
theorem M7 {ns:List Nat} {a:SC} : bY sp k (.forget ns a) s Q=bY sp k a (s.drop ns) Q:=_root_.id rfl
theorem fC {ops:List bW} : bY sp k (.region ops) s Q=qR sp ops s (Q .n):=C6
theorem fG {a:SC} : bY sp k (.loop a) s Q=pD sp k a k s Q:=_root_.id rfl
theorem aJx {c:SC} {Q':AX->St->Prop} (h:bY sp k c s Q) (hQ : ∀ a s,Q a s->Q' a s):bY sp k c s Q':=cO.mono h hQ
def sK (I:St->Prop) (Q:AX->St->Prop):AX->St->Prop
 | .n,s=>I s
 | .e i,s=>Q (.e i) s
 | .r,s=>Q .r s
theorem aEs {I:St->Prop} : sK I Q .n s=I s:=_root_.id rfl
theorem aJT {I:St->Prop} {i:Nat} : sK I Q (.e i) s=Q (.e i) s:=_root_.id rfl
theorem aFq {I:St->Prop} : sK I Q .r s=Q .r s:=_root_.id rfl
theorem lL {c:SC} (I:Nat->St->Prop) (step : ∀ m s,I m s->bY sp k c s (sK (fun s'=> ∃ m',m'<m/\I m' s') Q)) : ∀ (n m:Nat) (s:St),m<n->I m s->pD sp k c n s Q:=by
 refine Ee I (fun m s h=> ?_)
 refine (step m s h).mono ?_
 intro a s' h'
 cases a<;>exact h'
theorem iO {c:SC} (I:Nat->St->Prop) (N:Nat) (step : ∀ i s,i<N->I i s->bY sp k c s (sK (I (i+1)) Q)) (last : ∀ s,I N s->bY sp k c s (sK (fun _=>False) Q)) (n:Nat) (s:St) (hn:N<n) (h:I 0 s):pD sp k c n s Q:=by
 refine Ly I N (fun i s hi h=> ?_) (fun s h=> ?_) n 0 s (by omega) (by omega) h
 ·refine (step i s hi h).mono ?_
  intro a s' h'
  cases a<;>exact h'
 ·refine (last s h).mono ?_
  intro a s' h'
  cases a<;>exact h'
end
attribute [simp] St.Ej aFT aLj aBC aCw F3 aNv aQL aRh L6 aFU aIU aOA aD5 aIw aMs aNt aK6 aGm aFR aJ4 aPg V7 D6 F8 L1 aLA aGS Y9 aFk aHo aRA aEa aPP aGP Ys aHq aJs aGq aFb aOm aH4 aI8 aKw aB0 aOT aLP aIp aCO aFF aRC aHC aLg aBU aGp aOa aHG aDu B6 aN3 aIa aFK aHH aC6 aIj aQf aCW C7 aO7 aKt Tj aMb aA7 Hx aI4 aOn X8 aKM aQ8 aMJ aJt aRx aKr aCd Yt M5 aL0 aRG aBI aAN aEZ aOb aB7 aNG aEI aOK J4 aHP aP3 aKO aQu aBL aNN aOv aM8 aRu aN4 aL5 aBM aJ3 aDC aDX aLE aE2 aHR aP9 aG0 fL fJ aIn J5 M7 fC fG aEs aJT aFq
def rW (r:AV) (s:St) (K:AV->St->Prop):Prop:=r.free=true/\K r s
section
variable {s:St} {K:AV->St->Prop}
theorem aHc {c:Prop} [Decidable c] {r r':AV} : rW (if c then r else r') s K=(if c then rW r s K else rW r' s K):=by
 by_cases h:c<;>simp [h]
theorem aET {a:AP} : rW (.o a) s K=(a.free=true/\K (.o a) s):=_root_.id rfl
theorem aMK {l:List AP} : rW (.t l) s K=(l.all (·.free)=true/\K (.t l) s):=_root_.id rfl
end
attribute [simp] aHc aET aMK
structure Co (α : Type) where
 e : α -> AP
 p : α -> Prop
 v:AP->Prop
 dv : ∀ a,Decidable (v a)
 t:AP -> α
 some : ∀ {a},v a->a=e (t a)/\p (t a)
 enc : ∀ {x},p x->v (e x)/\t (e x)=x
instance {α : Type} (c:Co α) (a:AP):Decidable (c.v a):=c.dv a
section
variable {α β γ δ : Type}
def s0 (R:AV):List AP->Option AV
 | []=>some R
 | _=>none
def s1 (c1:Co α) (G : α -> Prop) [∀ x,Decidable (G x)] (R : α -> AV):List AP->Option AV
 | [a]=>if (c1.v a)/\G (c1.t a) then some (R (c1.t a)) else none
 | _=>none
def s2 (c1:Co α) (c2:Co β) (G : α -> β -> Prop) [∀ x y,Decidable (G x y)] (R : α -> β -> AV):List AP->Option AV
 | [a,b]=>if (c1.v a/\c2.v b)/\G (c1.t a) (c2.t b) then some (R (c1.t a) (c2.t b)) else none
 | _=>none
def s3 (c1:Co α) (c2:Co β) (c3:Co γ) (G : α -> β -> γ -> Prop) [∀ x y z,Decidable (G x y z)] (R : α -> β -> γ -> AV):List AP->Option AV
 | [a,b,c]=>if (c1.v a/\c2.v b/\c3.v c)/\G (c1.t a) (c2.t b) (c3.t c) then some (R (c1.t a) (c2.t b) (c3.t c)) else none
 | _=>none
def s4 (c1:Co α) (c2:Co β) (c3:Co γ) (c4:Co δ) (G : α -> β -> γ -> δ -> Prop) [∀ x y z u,Decidable (G x y z u)] (R : α -> β -> γ -> δ -> AV):List AP->Option AV
 | [a,b,c,d]=>if (c1.v a/\c2.v b/\c3.v c/\c4.v d)/\G (c1.t a) (c2.t b) (c3.t c) (c4.t d) then some (R (c1.t a) (c2.t b) (c3.t c) (c4.t d)) else none
 | _=>none
section
variable {s:St} {K:AV->St->Prop}
theorem aNH {R:AV} : jR (s0 R []) s K=rW R s K:=_root_.id rfl
theorem aFY {c1:Co α} {G : α -> Prop} [∀ x,Decidable (G x)] {R : α -> AV} {a:AP} : jR (s1 c1 G R [a]) s K=(((c1.v a)/\G (c1.t a))/\rW (R (c1.t a)) s K):=Hx
theorem aEX {c1:Co α} {c2:Co β} {G : α -> β -> Prop} [∀ x y,Decidable (G x y)] {R : α -> β -> AV} {a b:AP} : jR (s2 c1 c2 G R [a,b]) s K=(((c1.v a/\c2.v b)/\G (c1.t a) (c2.t b))/\rW (R (c1.t a) (c2.t b)) s K):=Hx
theorem aK5 {c1:Co α} {c2:Co β} {c3:Co γ} {G : α -> β -> γ -> Prop} [∀ x y z,Decidable (G x y z)] {R : α -> β -> γ -> AV} {a b c:AP} : jR (s3 c1 c2 c3 G R [a,b,c]) s K=(((c1.v a/\c2.v b/\c3.v c)/\G (c1.t a) (c2.t b) (c3.t c))/\rW (R (c1.t a) (c2.t b) (c3.t c)) s K):=Hx
theorem aI7 {c1:Co α} {c2:Co β} {c3:Co γ} {c4:Co δ} {G : α -> β -> γ -> δ -> Prop} [∀ x y z u,Decidable (G x y z u)] {R : α -> β -> γ -> δ -> AV} {a b c d:AP} : jR (s4 c1 c2 c3 c4 G R [a,b,c,d]) s K=(((c1.v a/\c2.v b/\c3.v c/\c4.v d)/\G (c1.t a) (c2.t b) (c3.t c) (c4.t d))/\rW (R (c1.t a) (c2.t b) (c3.t c) (c4.t d)) s K):=Hx
end
attribute [simp] aNH aFY aEX aK5 aI7
variable {c1:Co α} {c2:Co β} {c3:Co γ} {c4:Co δ} {r:AV}
theorem pO {G : α -> Prop} [∀ x,Decidable (G x)] {R : α -> AV} {aRR:List AP} (h:s1 c1 G R aRR=some r) : ∃ x,aRR = [c1.e x]/\c1.p x/\G x/\r=R x:=by
 unfold s1 at h
 split at h
 ·rename_i a
  split at h
  ·rename_i hg
   cases h
   obtain ⟨v0,hg⟩:=hg
   obtain ⟨e0,p0⟩:=c1.some v0
   exact ⟨_,by rw [← e0],p0,hg,rfl⟩
  ·cases h
 ·cases h
theorem jF {G : α -> β -> Prop} [∀ x y,Decidable (G x y)] {R : α -> β -> AV} {aRR:List AP} (h:s2 c1 c2 G R aRR=some r) : ∃ x y,aRR = [c1.e x,c2.e y]/\c1.p x/\c2.p y/\G x y/\r=R x y:=by
 unfold s2 at h
 split at h
 ·rename_i a b
  split at h
  ·rename_i hg
   cases h
   obtain ⟨⟨v0,v1⟩,hg⟩:=hg
   obtain ⟨e0,p0⟩:=c1.some v0
   obtain ⟨e1,p1⟩:=c2.some v1
   exact ⟨_,_,by rw [← e0,← e1],p0,p1,hg,rfl⟩
  ·cases h
 ·cases h
theorem Jt {G : α -> β -> γ -> Prop} [∀ x y z,Decidable (G x y z)] {R : α -> β -> γ -> AV} {aRR:List AP} (h:s3 c1 c2 c3 G R aRR=some r) : ∃ x y z,aRR = [c1.e x,c2.e y,c3.e z]/\c1.p x/\c2.p y/\c3.p z/\G x y z/\r=R x y z:=by
 unfold s3 at h
 split at h
 ·rename_i a b c
  split at h
  ·rename_i hg
   cases h
   obtain ⟨⟨v0,v1,v2⟩,hg⟩:=hg
   obtain ⟨e0,p0⟩:=c1.some v0
   obtain ⟨e1,p1⟩:=c2.some v1
   obtain ⟨e2,p2⟩:=c3.some v2
   exact ⟨_,_,_,by rw [← e0,← e1,← e2],p0,p1,p2,hg,rfl⟩
  ·cases h
 ·cases h
theorem Xo {G : α -> β -> γ -> δ -> Prop} [∀ x y z u,Decidable (G x y z u)] {R : α -> β -> γ -> δ -> AV} {aRR:List AP} (h:s4 c1 c2 c3 c4 G R aRR=some r) : ∃ x y z u,aRR = [c1.e x,c2.e y,c3.e z,c4.e u]/\c1.p x/\c2.p y/\c3.p z/\c4.p u/\G x y z u/\r=R x y z u:=by
 unfold s4 at h
 split at h
 ·rename_i a b c d
  split at h
  ·rename_i hg
   cases h
   obtain ⟨⟨v0,v1,v2,v3⟩,hg⟩:=hg
   obtain ⟨e0,p0⟩:=c1.some v0
   obtain ⟨e1,p1⟩:=c2.some v1
   obtain ⟨e2,p2⟩:=c3.some v2
   obtain ⟨e3,p3⟩:=c4.some v3
   exact ⟨_,_,_,_,by rw [← e0,← e1,← e2,← e3],p0,p1,p2,p3,hg,rfl⟩
  ·cases h
 ·cases h
structure Code (P:Program) (sp:Spec) (f:Nat) (sf:SF):Prop where
 at_ : ∃ fn,P.funcs[f]? = some fn/\wK P fn sf=true
 ent:Enters P f
 sp:fA P sp
theorem aG {P:Program} {sp:Spec} {f:Nat} {fn:Func} {sf:SF} (hf:P.funcs[f]? = some fn) (hent:Enters P f) (hchk:wK P fn sf=true) (hsp:fA P sp):Code P sp f sf:=⟨⟨fn,hf,hchk⟩,hent,hsp⟩
section
variable {P:Program} {sp:Spec} {f:Nat} {sf:SF}
theorem Code.all {s:List AP->Option AV} (C:Code P sp f sf) (h : ∀ aRR r,s aRR=some r->aRR.length<=sf.ntmps /\ ∃ k,bY sp k sf.code (gY aRR) (done sf r)):xG P f s:=by
 obtain ⟨fn,hf,hc⟩:=C.at_
 exact aPC hf hc C.sp h
theorem aMo {R:AV} (C:Code P sp f sf) (h : ∃ k,bY sp k sf.code (gY []) (done sf R)):xG P f (s0 R):=C.all fun aRR r hr=>by
 unfold s0 at hr
 split at hr
 ·cases hr;exact ⟨Nat.zero_le _,h⟩
 ·cases hr
theorem aMz {G : α -> Prop} [∀ x,Decidable (G x)] {R : α -> AV} (C:Code P sp f sf) (hn:1<=sf.ntmps) (h : ∀ x,c1.p x->G x -> ∃ k,bY sp k sf.code (gY [c1.e x]) (done sf (R x))):xG P f (s1 c1 G R):=C.all fun aRR r hr=>by
 obtain ⟨x,rfl,h1,hg,rfl⟩:=pO hr
 exact ⟨hn,h x h1 hg⟩
theorem aEA {G : α -> β -> Prop} [∀ x y,Decidable (G x y)] {R : α -> β -> AV} (C:Code P sp f sf) (hn:2<=sf.ntmps) (h : ∀ x y,c1.p x->c2.p y->G x y -> ∃ k,bY sp k sf.code (gY [c1.e x,c2.e y]) (done sf (R x y))):xG P f (s2 c1 c2 G R):=C.all fun aRR r hr=>by
 obtain ⟨x,y,rfl,h1,h2,hg,rfl⟩:=jF hr
 exact ⟨hn,h x y h1 h2 hg⟩
theorem aQz {G : α -> β -> γ -> Prop} [∀ x y z,Decidable (G x y z)] {R : α -> β -> γ -> AV} (C:Code P sp f sf) (hn:3<=sf.ntmps) (h : ∀ x y z,c1.p x->c2.p y->c3.p z->G x y z -> ∃ k,bY sp k sf.code (gY [c1.e x,c2.e y,c3.e z]) (done sf (R x y z))):xG P f (s3 c1 c2 c3 G R):=C.all fun aRR r hr=>by
 obtain ⟨x,y,z,rfl,h1,h2,h3,hg,rfl⟩:=Jt hr
 exact ⟨hn,h x y z h1 h2 h3 hg⟩
theorem aCe {G : α -> β -> γ -> δ -> Prop} [∀ x y z u,Decidable (G x y z u)] {R : α -> β -> γ -> δ -> AV} (C:Code P sp f sf) (hn:4<=sf.ntmps) (h : ∀ x y z u,c1.p x->c2.p y->c3.p z->c4.p u->G x y z u -> ∃ k,bY sp k sf.code (gY [c1.e x,c2.e y,c3.e z,c4.e u]) (done sf (R x y z u))):xG P f (s4 c1 c2 c3 c4 G R):=C.all fun aRR r hr=>by
 obtain ⟨x,y,z,u,rfl,h1,h2,h3,h4,hg,rfl⟩:=Xo hr
 exact ⟨hn,h x y z u h1 h2 h3 h4 hg⟩
theorem Vy {R:AV} (C:Code P sp f sf) (h : ∃ k,bY sp k sf.code (gY []) (done sf R)):Ok P f (s0 R):=(aMo C h).ok C.ent
theorem cA {G : α -> Prop} [∀ x,Decidable (G x)] {R : α -> AV} (C:Code P sp f sf) (hn:1<=sf.ntmps) (h : ∀ x,c1.p x->G x -> ∃ k,bY sp k sf.code (gY [c1.e x]) (done sf (R x))):Ok P f (s1 c1 G R):=(aMz C hn h).ok C.ent
theorem eT {G : α -> β -> Prop} [∀ x y,Decidable (G x y)] {R : α -> β -> AV} (C:Code P sp f sf) (hn:2<=sf.ntmps) (h : ∀ x y,c1.p x->c2.p y->G x y -> ∃ k,bY sp k sf.code (gY [c1.e x,c2.e y]) (done sf (R x y))):Ok P f (s2 c1 c2 G R):=(aEA C hn h).ok C.ent
theorem yK {G : α -> β -> γ -> Prop} [∀ x y z,Decidable (G x y z)] {R : α -> β -> γ -> AV} (C:Code P sp f sf) (hn:3<=sf.ntmps) (h : ∀ x y z,c1.p x->c2.p y->c3.p z->G x y z -> ∃ k,bY sp k sf.code (gY [c1.e x,c2.e y,c3.e z]) (done sf (R x y z))):Ok P f (s3 c1 c2 c3 G R):=(aQz C hn h).ok C.ent
theorem Yo {G : α -> β -> γ -> δ -> Prop} [∀ x y z u,Decidable (G x y z u)] {R : α -> β -> γ -> δ -> AV} (C:Code P sp f sf) (hn:4<=sf.ntmps) (h : ∀ x y z u,c1.p x->c2.p y->c3.p z->c4.p u->G x y z u -> ∃ k,bY sp k sf.code (gY [c1.e x,c2.e y,c3.e z,c4.e u]) (done sf (R x y z u))):Ok P f (s4 c1 c2 c3 c4 G R):=(aCe C hn h).ok C.ent
end
end
end Go.VC
namespace Go.VC
def aQ (z:Int):Int:=z/0x10000000000000000
def aT (z:Int):Int:=z%0x10000000000000000
theorem Nf (z:Int):aQ z*0x10000000000000000+aT z=z:=by unfold aQ aT;omega
theorem Le {z:Int} : wd z = .g [.v (.int .i64 (aQ z)),.v (.int .u64 (aT z))]:=_root_.id rfl
theorem Vv {z:Int} : lb z = .g [.v (.int .u64 (aQ z)),.v (.int .u64 (aT z))]:=_root_.id rfl
theorem Lf {x:Int} : aQ x<0↔x<0:=by unfold aQ;omega
theorem aEP {x:Int} : 0<=aQ x↔0<=x:=by unfold aQ;omega
theorem pU {x y:Int} : (aQ x=aQ y/\aT x=aT y)↔x=y:=by
 constructor
 ·rintro ⟨h1,h2⟩
  have e1:=Nf x
  have e2:=Nf y
  rw [h1,h2] at e1
  omega
 ·rintro rfl;exact ⟨rfl,rfl⟩
theorem Ru {x:Int} : (aQ x=0/\aT x=0)↔x=0:=by unfold aQ aT;omega
theorem Y7 {x:Int} : (0=aQ x/\0=aT x)↔x=0:=by unfold aQ aT;omega
theorem w_0:aQ 0=0/\aT 0=0:=⟨rfl,rfl⟩
theorem aDp {p:Prop} {x y:Int} : ((p/\aQ x=aQ y)/\aT x=aT y)↔p/\x=y:=by rw [and_assoc,pU]
theorem aPs {x y:Int} : (aQ x==aQ y&&aT x==aT y)=decide (x=y):=by
 rw [Bool.eq_iff_iff];simp [pU]
theorem aID {x:Int} : (aQ x==0&&aT x==0)=decide (x=0):=by
 rw [Bool.eq_iff_iff];simp [Ru]
theorem aQW {x:Int} : (0==aQ x&&0==aT x)=decide (x=0):=by
 rw [Bool.eq_iff_iff];simp [Y7]
def vW:AP->Bool
 | .g [.v (.int .i64 h),.v (.int .u64 l)]=>decide (-0x8000000000000000<=h/\h<0x8000000000000000/\0<=l/\l<0x10000000000000000)
 | _=>false
def tW:AP->Int
 | .g [.v (.int _ h),.v (.int _ l)]=>h*0x10000000000000000+l
 | _=>0
def vL:AP->Bool
 | .g [.v (.int .u64 h),.v (.int .u64 l)]=>decide (0<=h/\h<0x10000000000000000/\0<=l/\l<0x10000000000000000)
 | _=>false
def vI:AP->Bool
 | .c (.v (.int .i64 n))=>decide (-0x8000000000000000<=n/\n<0x8000000000000000)
 | _=>false
def vU:AP->Bool
 | .c (.v (.int .u64 n))=>decide (0<=n/\n<0x10000000000000000)
 | _=>false
def tI:AP->Int
 | .c (.v (.int _ n))=>n
 | _=>0
def vT:AP->Bool
 | .c (.v (.bool _))=>true
 | _=>false
def tT:AP->Bool
 | .c (.v (.bool b))=>b
 | _=>false
def Kh (l:List Int):Prop:= ∀ x∈l,0<=x/\x<256
instance (l:List Int):Decidable (Kh l):=inferInstanceAs (Decidable (∀ x∈l,0<=x/\x<256))
def vY:AP->Bool
 | .c (.r .u8 l)=>decide (Kh l)
 | _=>false
def tY:AP->List Int
 | .c (.r _ l)=>l
 | _=> []
section
variable {K:Int->Prop} {h l z:Int}
theorem aBv:(vW (.g [.v (.int .i64 h),.v (.int .u64 l)])=true)=(-0x8000000000000000<=h/\h<0x8000000000000000/\0<=l/\l<0x10000000000000000):=by simp only [vW,decide_eq_true_eq]
theorem N7:(vW (.g [.v (.int .i64 (aQ z)),.v (.int .u64 (aT z))])=true)=(-0x80000000000000000000000000000000<=z/\z<0x80000000000000000000000000000000):=by
 rw [aBv];unfold aQ aT;apply propext;omega
theorem El {k k':IntKind} : tW (.g [.v (.int k h),.v (.int k' l)])=h*0x10000000000000000+l:=_root_.id rfl
theorem Wj {k k':IntKind} : tW (.g [.v (.int k (aQ z)),.v (.int k' (aT z))])=z:=Nf z
theorem J2:(vL (.g [.v (.int .u64 h),.v (.int .u64 l)])=true)=(0<=h/\h<0x10000000000000000/\0<=l/\l<0x10000000000000000):=by simp only [vL,decide_eq_true_eq]
theorem Y2:(vL (.g [.v (.int .u64 (aQ z)),.v (.int .u64 (aT z))])=true)=(0<=z/\z<0x100000000000000000000000000000000):=by
 rw [J2];unfold aQ aT;apply propext;omega
theorem W9:(vI (.c (.v (.int .i64 z)))=true)=(-0x8000000000000000<=z/\z<0x8000000000000000):=by simp only [vI,decide_eq_true_eq]
theorem G4:(vU (.c (.v (.int .u64 z)))=true)=(0<=z/\z<0x10000000000000000):=by simp only [vU,decide_eq_true_eq]
theorem aPf {k:IntKind} : tI (.c (.v (.int k z)))=z:=_root_.id rfl
theorem aEF {b:Bool} : (vT (.c (.v (.bool b)))=true)=True:=by simp [vT]
theorem aHF {b:Bool} : tT (.c (.v (.bool b)))=b:=_root_.id rfl
theorem Zm {l:List Int} : (vY (.c (.r .u8 l))=true)=Kh l:=by simp only [vY,decide_eq_true_eq]
theorem aBT {k:IntKind} {l:List Int} : tY (.c (.r k l))=l:=_root_.id rfl
end
def bN:Co Int where
 e:=wd
 p:=fun x=> -0x80000000000000000000000000000000<=x/\x<0x80000000000000000000000000000000
 v a:=vW a=true
 dv a:=inferInstance
 t:=tW
 some {a} h:=by
  unfold vW at h
  split at h
  ·rename_i h0 l0
   have h:=of_decide_eq_true h
   refine ⟨?_,by rw [El];omega,by rw [El];omega⟩
   rw [El,Le]
   unfold aQ aT
   congr 3<;>first |(congr 2;omega)|(congr 3;omega)| skip
  ·cases h
 enc {x} h:=⟨by rw [Le,N7];exact h,Wj⟩
def Oz:Co Int where
 e:=lb
 p:=fun x=>0<=x/\x<0x100000000000000000000000000000000
 v a:=vL a=true
 dv a:=inferInstance
 t:=tW
 some {a} h:=by
  unfold vL at h
  split at h
  ·rename_i h0 l0
   have h:=of_decide_eq_true h
   refine ⟨?_,by rw [El];omega,by rw [El];omega⟩
   rw [El,Vv]
   unfold aQ aT
   congr 3<;>first |(congr 2;omega)|(congr 3;omega)| skip
  ·cases h
 enc {x} h:=⟨by rw [Vv,Y2];exact h,Wj⟩
def bF:Co Int where
 e:=fun x=> .c (.v (.int .i64 x))
 p:=fun x=> -0x8000000000000000<=x/\x<0x8000000000000000
 v a:=vI a=true
 dv a:=inferInstance
 t:=tI
 some {a} h:=by
  unfold vI at h
  split at h
  ·exact ⟨rfl,of_decide_eq_true h⟩
  ·cases h
 enc {x} h:=⟨by rw [W9];exact h,rfl⟩
def Jm:Co Int where
 e:=fun x=> .c (.v (.int .u64 x))
 p:=fun x=>0<=x/\x<0x10000000000000000
 v a:=vU a=true
 dv a:=inferInstance
 t:=tI
 some {a} h:=by
  unfold vU at h
  split at h
  ·exact ⟨rfl,of_decide_eq_true h⟩
  ·cases h
 enc {x} h:=⟨by rw [G4];exact h,rfl⟩
def Lj:Co Bool where
 e:=fun x=> .c (.v (.bool x))
 p:=fun x=>True
 v a:=vT a=true
 dv a:=inferInstance
 t:=tT
 some {a} h:=by
  unfold vT at h
  split at h
  ·exact ⟨rfl,trivial⟩
  ·cases h
 enc {x} h:=⟨rfl,rfl⟩
def Oq:Co (List Int) where
 e:=fun x=> .c (.r .u8 x)
 p:=Kh
 v a:=vY a=true
 dv a:=inferInstance
 t:=tY
 some {a} h:=by
  unfold vY at h
  split at h
  ·exact ⟨rfl,of_decide_eq_true h⟩
  ·cases h
 enc {x} h:=⟨by rw [Zm];exact h,rfl⟩
theorem Tl {x:Int} : bN.e x = .g [.v (.int .i64 (aQ x)),.v (.int .u64 (aT x))]:=_root_.id rfl
theorem aPe {a:AP} : bN.v a=(vW a=true):=_root_.id rfl
theorem aEW {a:AP} : bN.t a=tW a:=_root_.id rfl
theorem aOd {x:Int} : bN.p x=(-0x80000000000000000000000000000000<=x/\x<0x80000000000000000000000000000000):=_root_.id rfl
theorem aG9 {x:Int} : Oz.e x = .g [.v (.int .u64 (aQ x)),.v (.int .u64 (aT x))]:=_root_.id rfl
theorem aP8 {a:AP} : Oz.v a=(vL a=true):=_root_.id rfl
theorem aFL {a:AP} : Oz.t a=tW a:=_root_.id rfl
theorem aCF {x:Int} : Oz.p x=(0<=x/\x<0x100000000000000000000000000000000):=_root_.id rfl
theorem Xh {x:Int} : bF.e x = .c (.v (.int .i64 x)):=_root_.id rfl
theorem aH5 {a:AP} : bF.v a=(vI a=true):=_root_.id rfl
theorem aGk {a:AP} : bF.t a=tI a:=_root_.id rfl
theorem aQE {x:Int} : bF.p x=(-0x8000000000000000<=x/\x<0x8000000000000000):=_root_.id rfl
theorem aIr {x:Int} : Jm.e x = .c (.v (.int .u64 x)):=_root_.id rfl
theorem aPn {a:AP} : Jm.v a=(vU a=true):=_root_.id rfl
theorem aRe {a:AP} : Jm.t a=tI a:=_root_.id rfl
theorem aCc {x:Int} : Jm.p x=(0<=x/\x<0x10000000000000000):=_root_.id rfl
theorem aF1 {x:Bool} : Lj.e x = .c (.v (.bool x)):=_root_.id rfl
theorem aDi {a:AP} : Lj.v a=(vT a=true):=_root_.id rfl
theorem aCi {a:AP} : Lj.t a=tT a:=_root_.id rfl
theorem aPS {x:Bool} : Lj.p x=(True):=_root_.id rfl
theorem aPH {x:List Int} : Oq.e x = .c (.r .u8 x):=_root_.id rfl
theorem aEm {a:AP} : Oq.v a=(vY a=true):=_root_.id rfl
theorem aQs {a:AP} : Oq.t a=tY a:=_root_.id rfl
theorem aLt {x:List Int} : Oq.p x=Kh x:=_root_.id rfl
attribute [simp] Lf aEP pU Ru Y7 w_0 aDp aPs aID aQW aBv El J2 W9 G4 aPf aEF aHF Zm aBT Tl aPe aEW aOd aG9 aP8 aFL aCF Xh aH5 aGk aQE aIr aPn aRe aCc aF1 aDi aCi aPS aPH aEm aQs aLt
attribute [simp high] N7 Wj Y2
theorem Ok.via {P:Program} {f:Nat} {s s':List AP->Option AV} (h:Ok P f s) (h' : ∀ aRR r,s' aRR=some r->s aRR=some r):Ok P f s':=fun aRR r hr=>h aRR r (h' aRR r hr)
end Go.VC
end
