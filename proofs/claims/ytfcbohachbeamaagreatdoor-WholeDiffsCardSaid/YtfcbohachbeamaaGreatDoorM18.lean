/- What the laws' code answers: part 18 of what the rows of this seat lean on. -/
import Derived.Test.YtfcbohachbeamaaGreatDoorM17
import Derived.Test.YtfcbohachbeamaaGreatDoorRows
import Derived.WalkKit
import Derived.ProofKit
import Derived.OpenShut
import Derived.ShutString
import Derived.ChangeOld
import Derived.Below
import Derived.SizedLaws
import Derived.Carry
import Derived.LaidMore
import Derived.Lib.SmallJoins
set_option linter.unusedVariables false
set_option linter.unusedSimpArgs false
set_option maxHeartbeats 8000000
set_option maxRecDepth 100000
section
namespace Go.Proofs.YtfcbohachbeamaaGreatDoor.E
open Go.VC Go.RowKit
def nO:bC:=⟨0,3000000000,[(2272060800,10),(2287785600,11)]⟩
theorem aFz:bV.p nO:=by simp [nO,pE,bD]
theorem aD4:dG nO:=by decide +kernel
theorem aEb:sI nO.es (oR nO.es) nO.x ⟨2,5,3,0,(41498,86400,5),0,false,0,0,0,.r .u8 [],0,0,(0,0,0)⟩=(0,-0xc42e4787b42e290883fffb,0,0,0):=by decide +kernel
theorem aHu:sI nO.es (oR nO.es) nO.x ⟨2,3,5,-0xc42e4787b42e290883fffb,(0,0,0),0,false,0,0,0,.r .u8 [],0,0,(0,0,0)⟩=(0,0,41498,86400,5):=by decide +kernel
abbrev aKD:=s0 (.o (bv true))
theorem aMY:Ok Tryz.prog 10 aKD:=Vy (aG Tryz.func10 Fx.ent Fx.aA (aB M0 (aB Y4 aH))) ⟨0,by
 have hp:=aFz
 have hm:=aD4
 have hT:=Rf hp hm
 have hv:Ft (.g [.v (.int .i64 0),.v (.int .i64 3000000000),.q 2 [.v (.int .i64 2272060800),.v (.int .i64 10),.v (.int .i64 2287785600),.v (.int .i64 11)]])=true:=(bV.enc hp).1
 have ht:Hi (.g [.v (.int .i64 0),.v (.int .i64 3000000000),.q 2 [.v (.int .i64 2272060800),.v (.int .i64 10),.v (.int .i64 2287785600),.v (.int .i64 11)]])=nO:=(bV.enc hp).2
 have hc:=U0 hp
 have v1:=kC hc
 have v2:=jX hc
 have a1:=aEb
 have a2:=aHu
 have hr:fS ⟨51,2,none⟩ 2 [.v (.int .i64 2272060800),.v (.int .i64 10),.v (.int .i64 2287785600),.v (.int .i64 11)] = .q 2 [.v (.int .i64 2272060800),.v (.int .i64 10),.v (.int .i64 2287785600),.v (.int .i64 11)]:=by kernel_rfl
 have hO:oR nO.es=some qU:=by unfold oR;rw [if_pos (by decide +kernel)]
 have hX:nO.x=3000000000:=rfl
 rw [hO,hX] at v1 v2 a1 a2
 generalize nO=t at *
 generalize qU=R at *
 simp only [aF] at v1 v2
 simp [-N9,-C5,Fx.c,hr,hv,ht,hm,gG,aK,hO,aF,aN,hT,v1,v2,a1,a2,hX]⟩
end Go.Proofs.YtfcbohachbeamaaGreatDoor.E
end
section
namespace Go.Proofs.YtfcbohachbeamaaGreatDoor.E
open Go.VC Go.RowKit
section
variable {es:List En} {o:Option (List Pc)} {X:Int}
theorem aCb {l:Int×Int×Int} : eX es o X true l=if (cT es o l).2=0 then ((cT es o l).1,0) else (0,(cT es o l).2):=by
 unfold eX
 simp
theorem nz5 : ¬ iH 5:=by decide
theorem aKC {p n:Int} {l:Int×Int×Int} : iA es o X (p,true) (5,n,l)=if (cT es o l).2=0 then ((cT es o l).1,0) else (0,(cT es o l).2):=by
 unfold iA
 dsimp only
 rw [if_neg nz5,if_pos rfl]
 exact aCb
theorem tV {p n:Int} {x y:Int×Int×Int} : df es o X (p,true) (5,n,x) y =
 if (cT es o x).2=0 then (if (cT es o y).2=0 then (if -0x80000000000000000000000000000000<=(cT es o y).1-(cT es o x).1/\(cT es o y).1-(cT es o x).1<0x80000000000000000000000000000000 then (0,(cT es o y).1-(cT es o x).1,0,0,0) else (2,0,0,0,0)) else ((cT es o y).2,0,0,0,0)) else ((cT es o x).2,0,0,0,0):=by
 unfold df
 rw [aKC]
 dsimp only
 rw [aCb]
 by_cases h1:(cT es o x).2=0
 ·by_cases h2:(cT es o y).2=0<;>simp [h1,h2]
 ·simp [h1]
theorem aRz (hk:Tb.Tk es) {x y z:Int×Int×Int} (h1:(df es (oR es) X (0,true) (5,0,x) y).1=0) (h2:(df es (oR es) X (0,true) (5,0,y) z).1=0) :
 (df es (oR es) X (0,true) (5,0,x) z).1=0/\(df es (oR es) X (0,true) (5,0,x) z).2.1=(df es (oR es) X (0,true) (5,0,x) y).2.1+(df es (oR es) X (0,true) (5,0,y) z).2.1:=by
 have bx:=Xn hk x
 have by':=Xn hk y
 have bz:=Xn hk z
 rw [tV] at h1 h2
 rw [tV,tV,tV]
 by_cases q1:(cT es (oR es) x).2=0
 ·by_cases q2:(cT es (oR es) y).2=0
  ·by_cases q3:(cT es (oR es) z).2=0
   ·have f1 : -0x80000000000000000000000000000000<=(cT es (oR es) y).1-(cT es (oR es) x).1/\(cT es (oR es) y).1-(cT es (oR es) x).1<0x80000000000000000000000000000000:=by omega
    have f2 : -0x80000000000000000000000000000000<=(cT es (oR es) z).1-(cT es (oR es) y).1/\(cT es (oR es) z).1-(cT es (oR es) y).1<0x80000000000000000000000000000000:=by omega
    have f3 : -0x80000000000000000000000000000000<=(cT es (oR es) z).1-(cT es (oR es) x).1/\(cT es (oR es) z).1-(cT es (oR es) x).1<0x80000000000000000000000000000000:=by omega
    simp only [q1,q2,q3,f1,f2,f3,if_true,and_self]
    refine ⟨trivial,by omega⟩
   ·simp only [q2,q3,if_true,if_false] at h2
  ·simp only [q2,if_false] at h2
 ·simp only [q1,if_false] at h1
end
end Go.Proofs.YtfcbohachbeamaaGreatDoor.E
end
section
namespace Go.Proofs.YtfcbohachbeamaaGreatDoor.E
open Go.VC Go.RowKit
section
variable {es:List En} {o:Option (List Pc)} {X:Int}
end
end Go.Proofs.YtfcbohachbeamaaGreatDoor.E
end
section
namespace Go.Proofs.YtfcbohachbeamaaGreatDoor.E
open Go.VC Go.RowKit
theorem C1 {m:Mo×Int} (h:nU.p m.1/\0<=m.2/\m.2<=12):Fw (sd m):=by
 obtain ⟨⟨h1,h2,h3⟩,h4⟩:=h
 unfold sd
 split
 ·exact ⟨by simp,h2,h3⟩
 ·exact ⟨by dsimp only;omega,by simp,by simp⟩
theorem Ge {e:Int} (h:0<=e/\e<=12):Fw (e,0,0,0,0):=⟨by dsimp only;omega,by simp,by simp⟩
theorem aQn (es:List En) (hk:Tb.Tk es) (o:Option (List Pc)) (n p:Int):0<=(xF es o n p).2/\(xF es o n p).2<=12:=by
 obtain ⟨-,-,h⟩:=n7 es hk o n
 unfold xF
 split
 ·split
  ·simp
  ·split<;>simp
 ·exact h
theorem aJr {es:List En} (hk:Tb.Tk es) (o:Option (List Pc)) (x:Int) (w:Int×Bool) (m:Mo):0<=(iA es o x w m).2/\(iA es o x w m).2<=12:=by
 have hU : ∀ n,0<=(iU es o x w n).2/\(iU es o x w n).2<=12:=fun n=>by
  unfold iU
  split
  ·exact (Hn hk o x w.2 _).2
  ·exact aQn es hk o n w.1
 unfold iA
 split
 ·split<;>simp
 ·split
  ·exact (Hn hk o x w.2 _).2
  ·split
   ·exact hU _
   ·split
    ·unfold iN
     split
     ·exact hU _
     ·simp
    ·split
     ·unfold iS
      split
      ·split
       ·simp
       ·exact Yj es o x w.2 _
      ·exact aQb es _
     ·simp
theorem Wg {es:List En} (hk:Tb.Tk es) (o:Option (List Pc)) (x:Int) {r:Rq} (hr:Cv.p r):Fw (sI es o x r):=by
 obtain ⟨p0,p1,p2,p3,p4,p5,p7,p8,p9,pQ,p11,p12,p13⟩:=hr
 have he:=aJr hk o x (r.pick,r.lax) (r.sc,r.n,r.l)
 unfold sI
 split
 ·unfold cv
  split
  ·exact C1 (Qe hk o x _ _ p2)
  ·exact Ge he
 ·split
  ·unfold ad
   split
   ·split
    ·exact C1 (Qe hk o x _ _ p1)
    ·exact Ge (by decide)
   ·exact Ge he
  ·unfold df
   split
   ·split
    ·split
     ·rename_i h
      exact ⟨by simp,h,by simp⟩
     ·exact Ge (by decide)
    ·exact Ge (Hn hk o x _ _).2
   ·exact Ge he
noncomputable abbrev Mr:=s4 bV dV dV dV rD fun _ _ _ _=> .o (bv true)
theorem aIJ:Ok Tryz.prog 6 Mr:=Yo (aG Tryz.func6 nW.ent nW.aA (aB aEN (aB aMY (aB M0 (aB Y4 aP2))))) (by simp [nW.c]) fun t x y z ht hx hy hz _=>by
 have hp:=ht
 have hck:=U0 hp
 obtain ⟨q1,q2,q3⟩:=ht
 have hi:bD t.u/\bD t.x:=⟨q1,q2⟩
 obtain ⟨d1,s1',a1⟩:=x
 obtain ⟨d2,s2',a2⟩:=y
 obtain ⟨d3,s3',a3⟩:=z
 refine ⟨0,?_⟩
 by_cases hm:dG t
 ·have hT:=Rf hp hm
  have hk:=iE hT
  have hlaw:=fun h1 h2=>aRz (X:=t.x) hk (x:=(d1,s1',a1)) (y:=(d2,s2',a2)) (z:=(d3,s3',a3)) h1 h2
  have v1:=kC hck
  have v2:=jX hck
  simp at hx hy hz
  obtain ⟨ra,hA⟩ : ∃ r,sI t.es (oR t.es) t.x ⟨6,5,0,0,(d1,s1',a1),0,true,0,0,0,.r .u8 [],0,0,(d2,s2',a2)⟩=r:=⟨_,rfl⟩
  obtain ⟨rb,hB⟩ : ∃ r,sI t.es (oR t.es) t.x ⟨6,5,0,0,(d2,s2',a2),0,true,0,0,0,.r .u8 [],0,0,(d3,s3',a3)⟩=r:=⟨_,rfl⟩
  obtain ⟨rc,hC⟩ : ∃ r,sI t.es (oR t.es) t.x ⟨6,5,0,0,(d1,s1',a1),0,true,0,0,0,.r .u8 [],0,0,(d3,s3',a3)⟩=r:=⟨_,rfl⟩
  have gA:Fw ra:=hA ▸ Wg hk _ _ (by simp [hx,hy,AC.known,AP.free];exact ⟨hx,hy⟩)
  have gB:Fw rb:=hB ▸ Wg hk _ _ (by simp [hy,hz,AC.known,AP.free];exact ⟨hy,hz⟩)
  have gC:Fw rc:=hC ▸ Wg hk _ _ (by simp [hx,hz,AC.known,AP.free];exact ⟨hx,hz⟩)
  have eA:df t.es (oR t.es) t.x (0,true) (5,0,d1,s1',a1) (d2,s2',a2)=ra:=by rw [← hA];rfl
  have eB:df t.es (oR t.es) t.x (0,true) (5,0,d2,s2',a2) (d3,s3',a3)=rb:=by rw [← hB];rfl
  have eC:df t.es (oR t.es) t.x (0,true) (5,0,d1,s1',a1) (d3,s3',a3)=rc:=by rw [← hC];rfl
  rw [eA,eB,eC] at hlaw
  clear eA eB eC
  obtain ⟨ea,na,la⟩:=ra
  obtain ⟨eb,nb',lb'⟩:=rb
  obtain ⟨ec,nc,lc⟩:=rc
  obtain ⟨ga1,ga2,ga3⟩:=gA
  obtain ⟨gb1,gb2,gb3⟩:=gB
  obtain ⟨gc1,gc2,gc3⟩:=gC
  dsimp only at *
  have ma:=Rh ga2
  have mb:=Rh gb2
  have mc:=Rh gc2
  have ma':=Va ma
  have mb':=Va mb
  have mc':=Va mc
  generalize hO:oR t.es=o at *
  by_cases h1:ea=0
  ·by_cases h2:eb=0
   ·obtain ⟨h3,h4⟩:=hlaw h1 h2
    cases o<;>simp only [aF] at v1 v2<;>simp [nW.c,q1,q2,q3,hm,aN,hT,v1,v2,gG,aK,hO,aF,hx,hy,hz,hA,hB,hC,h1,h2,h3,h4,ga2,gb2,gc2,ma',mb',mc']
    all_goals exact ⟨hi,by rw [← h4];exact gc2,by rw [← h4];exact mc'⟩
   ·cases o<;>simp only [aF] at v1 v2<;>simp [nW.c,q1,q2,q3,hm,aN,hT,v1,v2,gG,aK,hO,aF,hx,hy,hz,hA,hB,hC,h1,h2]
    all_goals exact hi
  ·cases o<;>simp only [aF] at v1 v2<;>simp [nW.c,q1,q2,q3,hm,aN,hT,v1,v2,gG,aK,hO,aF,hx,hy,hz,hA,hB,hC,h1]
   all_goals exact hi
 ·simp [nW.c,q1,q2,q3,hm]
  exact hi
end Go.Proofs.YtfcbohachbeamaaGreatDoor.E
end
section
namespace Go.Proofs.YtfcbohachbeamaaGreatDoor.E
open Go.VC Go.RowKit
open Go.VC Go.RowKit
open Go.VC Go.RowKit
end Go.Proofs.YtfcbohachbeamaaGreatDoor.E
end
section
namespace Go.Proofs.YtfcbohachbeamaaGreatDoor.E
open Go.VC Go.RowKit Go.ChangeShapes Go.WideShapes Go.ChangeAt Go.Joins
variable {H:Type} {enc:TypeId×Value->H} {W:World} {b0:Nat} {held:Bool} {d:DataW H} {p:List MemPlace}
theorem O1 {b o n len:Nat} {xs:List (DataW H×List MemPlace)} (hn:xs.length=len) (hel : ∀ i,i<len->(W.cells? 0 (Addr.add ⟨b,o,none⟩ (i*2)) 2).bind (DataW.trod enc Tryz.prog W 0 (fun _=>true) held n 51)=xs[i]?) :
 ∀ m k,k+m=len -> ∃ es:List En,es.length=m/\pE es /\ ∀ j x,(bR es)[j]? = some x->W.cell? ⟨b,o+(k*2+j),none⟩=some x
 | 0,k,_=>⟨[],rfl,trivial,fun j x h=>by cases h⟩
 | m+1,k,hk=>by
  obtain ⟨es,h1,h2,h3⟩:=O1 hn hel m (k+1) (by omega)
  have h:=hel k (by omega)
  rw [List.getElem?_eq_getElem (show k<xs.length by omega)] at h
  simp only [Option.bind_eq_some_iff] at h
  obtain ⟨cs,hc,ht⟩:=h
  obtain ⟨_,hl,hcell⟩:=World.cells?_some hc
  obtain ⟨y0,y1,m',-,-,k0,k1⟩:=trod_struct2 Tryz.underlying51 ht
  match cs,hl with
  | [c0,c1],_=>
  obtain ⟨a0,e0,-,w0⟩:=DataW.trod_int Tryz.underlying3 k0
  obtain ⟨a1,e1,-,w1⟩:=DataW.trod_int Tryz.underlying3 k1
  have c3:Tryz.prog.cellsOf 3=1:=by kernel_rfl
  simp [c3] at e0 e1
  subst e0 e1
  have q0:=hcell 0 (by omega)
  have q1:=hcell 1 (by omega)
  have r0:=bounds_i64 w0
  have r1:=bounds_i64 w1
  have ad : ∀ {x y:Nat},(⟨b,x,none⟩:Addr).add y=⟨b,x+y,none⟩:=fun {x y} => by unfold Addr.add;split<;>simp_all
  rw [ad,ad] at q0 q1
  refine ⟨(a0,a1)::es,by simp [h1],⟨?_,?_,h2⟩,fun j x hx=> ?_⟩
  ·unfold bD;dsimp only;omega
  ·unfold bD;dsimp only;omega
  ·match j,hx with
   | 0,hx=>cases hx;simpa using q0
   | 1,hx=>
    cases hx
    rw [show o+(k*2+1)=o+k*2+1 by omega]
    simpa using q1
   | j+2,hx=>
    have:=h3 j x hx
    rw [show o+(k*2+(j+2))=o+((k+1)*2+j) by omega]
    exact this
theorem aGE {A:Option Addr} {len cap fuel:Nat} {x:DataW H×List MemPlace} (hv:Cell.okWide Tryz.prog W .any b0 22 (.slice A len cap)) (h:DataW.trod enc Tryz.prog W 0 (fun _=>true) held fuel 22 [.slice A len cap]=some x) :
 ∃ es:List En,pE es/\nY (fun _=>False) W 2 (.slice A len cap) (qE es):=by
 rcases DataW.trod_slice Tryz.underlying22 h with ⟨hcs,_⟩ | ⟨a,l,c,xs,rest,n,-,hcs,-,-,hl,-,hlen,hel,-⟩
 ·simp only [List.cons.injEq,Value.slice.injEq,and_true] at hcs
  obtain ⟨rfl,rfl,rfl⟩:=hcs
  exact ⟨[],trivial,.inl ⟨rfl,rfl⟩⟩
 ·simp only [List.cons.injEq,Value.slice.injEq,and_true] at hcs
  obtain ⟨rfl,rfl,rfl⟩:=hcs
  have c51:Tryz.prog.cellsOf 51=2:=by kernel_rfl
  rw [c51] at hel
  simp only [Cell.okWide,Cell.ok,Tryz.underlying22] at hv
  obtain ⟨_,_,_,hsp,row,cells,hsh,_⟩:=hv
  obtain ⟨b,o,sp⟩:=a
  simp only at hsp hsh
  subst hsp
  have hb:b<W.heap.size:=by
   unfold World.shape? at hsh
   rcases Nat.lt_or_ge b W.heap.size with h | h
   ·exact h
   ·rw [Array.getElem?_eq_none (by omega)] at hsh;cases hsh
  obtain ⟨es,h1,h2,h3⟩:=O1 hlen hel len 0 (by omega)
  refine ⟨es,h2,.inr ⟨b,o,len,cap,rfl,by rw [iC,h1],hl,fun h=>h,hb,fun j cc hj=> ?_⟩⟩
  rw [Ja,List.getElem?_map] at hj
  cases hv:(bR es)[j]? with
  | none=>rw [hv] at hj;cases hj
  | some y=>
   rw [hv] at hj
   cases hj
   have:=h3 j y hv
   rw [Nat.zero_mul,Nat.zero_add] at this
   exact ⟨y,this,rfl,Jl es y (List.mem_of_getElem? hv)⟩
theorem aLx {v:Value} (hv:Value.okWide Tryz.prog W .any b0 24 v) (h:DataW.Trod enc Tryz.prog W 0 (fun _=>true) held 24 v d p) :
 ∃ (t:bC) (sv':Value),v = .agg #[.int .i64 t.u,.int .i64 t.x,sv']/\bV.p t/\nY (fun _=>False) W 2 sv' (qE t.es):=by
 obtain ⟨cs,rfl,hsz,ts,hts,_,hcell⟩ : ∃ cs,v = .agg cs/\cs.size=Tryz.prog.cellsOf 24/\Row.okWide Tryz.prog W .any b0 24 cs:=by
  have:=hv
  unfold Value.okWide at this
  rw [Tryz.underlying24] at this
  exact this
 have c24:Tryz.prog.cellsOf 24=3:=by kernel_rfl
 rw [c24] at hsz
 obtain ⟨x0,x1,x2,rfl⟩ : ∃ x0 x1 x2,cs = #[x0,x1,x2]:=by
  obtain ⟨l⟩:=cs
  match l,hsz with
  | [x0,x1,x2],_=>exact ⟨x0,x1,x2,rfl⟩
 have hts':Tryz.prog.cellTypes Tryz.prog.depth 24=some [3,3,22]:=by kernel_rfl
 rw [hts'] at hts
 cases hts
 obtain ⟨u,hu,hk⟩:=hcell 2 x2 rfl
 cases hu
 obtain ⟨fuel,hf⟩:=h
 obtain ⟨xs,n,-,-,-,hxl,hff⟩:=DataW.trod_struct Tryz.underlying24 hf
 have c3:Tryz.prog.cellsOf 3=1:=by kernel_rfl
 have c22:Tryz.prog.cellsOf 22=1:=by kernel_rfl
 match xs,hxl with
 | [y0,y1,y2],_=>
 have k0:DataW.trod enc Tryz.prog W 0 (fun _=>true) held n 3 (([x0,x1,x2].drop 0).take (Tryz.prog.cellsOf 3))=some y0:=hff 0 _ rfl
 have k1:DataW.trod enc Tryz.prog W 0 (fun _=>true) held n 3 (([x0,x1,x2].drop 1).take (Tryz.prog.cellsOf 3))=some y1:=hff 1 _ rfl
 have k2:DataW.trod enc Tryz.prog W 0 (fun _=>true) held n 22 (([x0,x1,x2].drop 2).take (Tryz.prog.cellsOf 22))=some y2:=hff 2 _ rfl
 rw [c3] at k0 k1
 rw [c22] at k2
 simp only [List.drop_zero,List.drop_succ_cons,List.take_succ_cons,List.take_zero] at k0 k1 k2
 obtain ⟨a0,e0,-,w0⟩:=DataW.trod_int Tryz.underlying3 k0
 obtain ⟨a1,e1,-,w1⟩:=DataW.trod_int Tryz.underlying3 k1
 simp at e0 e1
 subst e0 e1
 have r0:=bounds_i64 w0
 have r1:=bounds_i64 w1
 have hx2 : ∃ A len cap,x2 = .slice A len cap:=by
  rcases DataW.trod_slice Tryz.underlying22 k2 with ⟨h1,_⟩ | ⟨a,l,c,_,_,_,_,h1,_⟩
  ·exact ⟨none,0,0,by simpa using h1⟩
  ·exact ⟨_,_,_,by simpa using h1⟩
 obtain ⟨A,len,cap,rfl⟩:=hx2
 obtain ⟨es,h1,h2⟩:=aGE hk k2
 exact ⟨⟨a0,a1,es⟩,_,rfl,⟨by unfold bD;dsimp only;omega,by unfold bD;dsimp only;omega,h1⟩,h2⟩
theorem o0 {v:Value} (hv:Value.okWide Tryz.prog W .any b0 34 v) (h:DataW.Trod enc Tryz.prog W 0 (fun _=>true) held 34 v d p) :
 ∃ x y z:Int,v = .agg #[.int .i64 x,.int .i64 y,.int .i64 z]/\dV.p (x,y,z):=by
 obtain ⟨c0,c1,c2,y0,y1,y2,m,rfl,-,-,h0,h1,h2⟩:=open_agg3 Tryz.underlying34 (by kernel_rfl) (by kernel_rfl) hv h
 obtain ⟨a0,e0,-,w0⟩:=DataW.trod_int Tryz.underlying3 h0
 obtain ⟨a1,e1,-,w1⟩:=DataW.trod_int Tryz.underlying3 h1
 obtain ⟨a2,e2,-,w2⟩:=DataW.trod_int Tryz.underlying3 h2
 simp at e0 e1 e2
 subst e0 e1 e2
 have r0:=bounds_i64 w0
 have r1:=bounds_i64 w1
 have r2:=bounds_i64 w2
 exact ⟨a0,a1,a2,rfl,by dsimp only;omega,by dsimp only;omega,by dsimp only;omega⟩
theorem aRw {W:World} (hs:W.ShapedOpen Tryz.prog) (hl:laidMetH Tryz.prog Rows.wholeDiffsRow.laid W):aZ W:=by
 have hg : ∀ g zero t,g<Tryz.prog.globals.size->((begin Tryz.prog (fun _ _=>0) default).world.heap[g]?).bind Obj.row? = some (zero,t) -> ∃ cs,W.heap[g]? = some (.cells cs t)/\cs.size=zero.size/\(Tryz.prog.buildable t=true->Row.ok Tryz.prog W .any 0 t cs):=hs.1
 have z0:((begin Tryz.prog (fun _ _=>0) default).world.heap[0]?).bind Obj.row? = some (#[.int .i64 0],3):=by kernel_rfl
 have gs:Tryz.prog.globals.size=11:=by kernel_rfl
 rw [gs] at hg
 obtain ⟨c0,h0,hsz,hok⟩:=hg 0 _ _ (by decide) z0
 obtain ⟨ts,hts,-,hcell⟩:=hok (by kernel_rfl)
 have hts':Tryz.prog.cellTypes Tryz.prog.depth 3=some [3]:=by kernel_rfl
 rw [hts'] at hts
 cases hts
 have hsz:c0.size=1:=hsz
 obtain ⟨v0,rfl⟩ : ∃ v0,c0 = #[v0]:=by
  obtain ⟨l⟩:=c0
  match l,hsz with
  | [v0],_=>exact ⟨v0,rfl⟩
 obtain ⟨u,hu,hk⟩:=hcell 0 v0 rfl
 cases hu
 obtain ⟨m,rfl⟩ : ∃ m,v0 = .int .i64 m:=by
  simp only [Cell.ok,Tryz.underlying3] at hk
  split at hk<;>simp_all
 have hs2 : ∀ k,Tryz.prog.globals.size<=k->k<(begin Tryz.prog (fun _ _=>0) default).world.heap.size -> ∃ o o₀,W.heap[k]? = some o/\(begin Tryz.prog (fun _ _=>0) default).world.heap[k]? = some o₀ /\ (if World.looseAt (k-Tryz.prog.globals.size)=true then o.alike o₀ else o=o₀):=hs.2
 obtain ⟨o11,-,h11,-⟩:=hs2 11 (by rw [gs];decide) (of_decide_eq_true (by kernel_rfl))
 have h12:=(Array.getElem?_eq_some_iff.1 h11).1
 refine ⟨by unfold NG;omega,⟨m,?_⟩,?_⟩
 ·unfold World.cell?
  rw [h0]
  rfl
 ·rw [MakeChecks.laidMetH_plain _ _ _ (by kernel_rfl)] at hl
  obtain ⟨ps,⟨_,_,_,_,_,_,_,_,_,_,⟨_,_,_,_,_,_,_,_,_,_,⟨g,t,cs,f,p,q,hg5,ht5,hv5,hd5,-⟩,_⟩,_⟩,_⟩:=hl
  have hg5':Tryz.prog.globalNamed "internal/strconv.uint64pow10" = some 5:=by kernel_rfl
  rw [hg5'] at hg5
  cases hg5
  have ht5':Option.map (fun x=>x.type) Tryz.prog.globals[5]? = some 369:=by kernel_rfl
  rw [ht5'] at ht5
  cases ht5
  obtain ⟨tt,pp,h5⟩ : ∃ tt pp,W.heap[5]? = some (.cells cs tt pp):=by
   simp only [World.var?,hg5',Option.bind_some] at hv5
   split at hv5<;>simp_all
  refine ⟨tt,pp,?_⟩
  rw [h5]
  congr 2
  obtain ⟨xs,m1,-,hx1,hlen,hn3,hel⟩:=DataW.trod_array Tryz.underlying369 hd5
  have c25:Tryz.prog.cellsOf 25=1:=by kernel_rfl
  have c369:Tryz.prog.cellsOf 369=20:=by kernel_rfl
  have hL:Rows.laid_internal_strconv_uint64pow10=(DataW.agg ((List.range 20).map fun i=>DataW.lit (Lit.int .u64 ((10 ^ i:Nat):Int))):DataW Unit):=by kernel_rfl
  rw [hL] at hx1
  simp only [Prod.mk.injEq,DataW.agg.injEq] at hx1
  rw [c369] at hlen
  apply Array.ext'
  show cs.toList=((List.range 20).map fun i=>Value.int .u64 ((10 ^ i:Nat):Int))
  apply List.ext_getElem?
  intro i
  by_cases hi:i<20
  ·have h1:=hel i hi
   rw [c25,Nat.mul_one] at h1
   rw [List.getElem?_eq_getElem (show i<xs.length by omega)] at h1
   obtain ⟨n,e1,e2,-⟩:=DataW.trod_int Tryz.underlying25 h1
   have h2:(xs.map (·.1))[i]? = some (DataW.lit (Lit.int .u64 n)):=by
    rw [List.getElem?_map,List.getElem?_eq_getElem (show i<xs.length by omega),e2];rfl
   rw [← hx1.1,List.getElem?_map,List.getElem?_range hi] at h2
   simp only [Option.map_some,Option.some.injEq,DataW.lit.injEq,Lit.int.injEq,true_and] at h2
   have h3:cs.toList[i]? = some (.int .u64 n):=by
    have:=congrArg (fun l:List Value=>l[0]?) e1
    simpa [List.getElem?_take,List.getElem?_drop] using this
   rw [h3,List.getElem?_map,List.getElem?_range hi,← h2]
   rfl
  ·rw [List.getElem?_eq_none (by omega),List.getElem?_eq_none (by simp;omega)]
theorem aGi {a:Assume} {C:Checked} {os:Os} {f:FuncId} {fn:Func} {s:ChangeSpec} {conds:List PathCond} {apart fresh handsOn again:Bool} {X:World->Array Value->Prop}
 (hX : ∀ (w w':World) (args:Array Value),w.heap=w'.heap->X w args->X w' args)
 (own:ownKnob C.prog.godebug=none) (started:os.Started) (noInit:C.prog.inits.idxOf? f=none) (hfn:C.prog.funcs[f]? = some fn)
 (witness : ∃ (w:World) (tape:Tape) (i:Input),w.os=os/\(w.forCall tape i).Shaped C.prog/\i.vars = []/\Input.okWide C.prog (w.forCall tape i) .any w.heap.size f i /\
  ((s.pre enc C.prog fn conds apart (w.forCall tape i).memory i.args/\X (w.forCall tape i).memory i.args)/\sizedMet enc C.prog fn (OpenSpec.ofChange s) apart (w.forCall tape i).memory i.args)/\a.holds C.prog (lone (Frame.enter C.prog f i.args .normal) [] (w.forCall tape i)))
 (contract : ∀ (W:World) (base:Nat) (args:Array Value) (ds gs:List (DataW H)) (before:List MemPlace),
  (∀ (j:Nat) t v,fn.params[j]? = some t->args[j]? = some v->Value.okWide C.prog W .any base t v) ->
  DataW.Whole enc C.prog fn.params.toList s.vars apart W args.toList ds gs before->X W args->W.ShapedOpen C.prog ->
  Calls C.prog f args W fun e W'=> ∃ v,e = .returned v/\s.post enc C.prog fn apart fresh handsOn again W args v W') :
 ReturnsInHanded a C os f .any (fun w args=>(s.pre enc C.prog fn conds apart w args/\X w args)/\sizedMet enc C.prog fn (OpenSpec.ofChange s) apart w args) (s.post enc C.prog fn apart fresh handsOn again):=by
 refine returnsInHanded_of_calls own started noInit witness ?_
 intro w tape i _ hso _ hok hpre hholds
 obtain ⟨_,_,_,fn',hfn',_,_,_,_,hval⟩:=hok
 have e:fn'=fn:=Option.some.inj (hfn'.symm.trans hfn)
 subst e
 obtain ⟨⟨⟨ds,gs,before,hw,hc⟩,hx⟩,hz⟩:=hpre
 have hw':=DataW.Whole.of_heap (w':=w.forCall tape i) (by rfl) hw
 refine (contract (w.forCall tape i) w.heap.size i.args ds gs before hval hw' (hX _ _ _ (by rfl) hx) hso).mono fun e W' ⟨v,he,hp⟩=> ?_
 subst he
 exact ChangeSpec.post_blind hp
theorem aMq {f:Nat} {s:List AP->Option AV} (h:Ok Tryz.prog f s) (ent:Enters Tryz.prog f) {xs:List AP} (hs:s xs=some (.o (bv true))) {w:World} {vs:List Value} (G:aZ w) (hrep:cP ⟨fun _=>False,fun _=>0,fun _=>False⟩ w xs vs) :
 Calls Tryz.prog f vs.toArray w fun e w'=>e = .returned (.bool true)/\Below w.heap.size w w':=
 (Z9 h hs ent (fun t n h=>by cases h) rfl G (fun _=>False) (fun _ h=>h.elim) hrep hrep).mono fun e w' ⟨v,he,hv,hb⟩=>by
  subst he
  exact ⟨by rw [hv.1],hb⟩
end Go.Proofs.YtfcbohachbeamaaGreatDoor.E
end
