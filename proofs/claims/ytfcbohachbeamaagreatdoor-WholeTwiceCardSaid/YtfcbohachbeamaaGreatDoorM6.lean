/- What the laws' code answers: part 6 of what the rows of this seat lean on. -/
import Derived.Test.YtfcbohachbeamaaGreatDoorProg
import Derived.WalkKit
import Derived.WalkSpells
import Derived.StillTactics
import Derived.Laws.Pointers
import Derived.Deep.RegionHeld3
import Derived.RegionTactic
import Derived.BigRegion
import Derived.Outline
import Derived.Lib.Hide
import Derived.Shelf.Bits.Mul64
import Derived.Shelf.Spec.BitsCarry
import Derived.RowKit3
import Derived.Below
import Derived.KernelRfl
import Derived.Laws.Externs
import Derived.Test.YtfcbohachbeamaaGreatDoorM4
import Derived.Test.YtfcbohachbeamaaGreatDoorM5
import Derived.Test.YtfcbohachbeamaaGreatDoorM3
set_option linter.unusedVariables false
set_option linter.unusedSimpArgs false
set_option maxHeartbeats 8000000
set_option maxRecDepth 100000
section
namespace Go.Proofs.YtfcbohachbeamaaGreatDoor.E
open Go.RowKit
theorem aQd {w W:World} (h:Below w.heap.size w W) (o:Obj):Below w.heap.size w (W.alloc o):=h.alloc h.size o
theorem aFa {w W:World} {g j:Nat} {v:Value} (h:Below w.heap.size w W) (hg:w.heap.size<=g):Below w.heap.size w (W.setCell ⟨g,j,none⟩ v):=h.setCell hg _
theorem aJo {base:Nat} {w W:World} (h:Below base w W):Below base w W.drew:=h.drew
def jG (x:Int):Prop:=0<=x/\x<0x10000000000000000
instance (x:Int):Decidable (jG x):=inferInstanceAs (Decidable (_/\_))
theorem Ay (x y c:Int) (hx:0<=x) (hy:0<=y) (hc0:0<=c) (hc:c<=1) (w:World):(callFunc 137 #[.int .u64 x,.int .u64 y,.int .u64 c]).run Tryz.prog w =
 .ok (.value (.tuple #[.int .u64 ((x+y+c)%0x10000000000000000),.int .u64 ((x+y+c)/0x10000000000000000)])) w:=by
 rw [run_callFunc_extern Tryz.func137 (by kernel_rfl) (by kernel_rfl) (by kernel_rfl) (e:=add64Entry) (by kernel_rfl),run_add64 x y c hx hy hc0 hc]
 rfl
theorem Uf (x y:Int) (hx:0<=x) (hy:0<=y) (w:World):(callFunc 137 #[.int .u64 x,.int .u64 y,.int .u64 0]).run Tryz.prog w =
 .ok (.value (.tuple #[.int .u64 ((x+y)%0x10000000000000000),.int .u64 ((x+y)/0x10000000000000000)])) w:=by
 simpa using Ay x y 0 hx hy (Int.le_refl 0) (by decide) w
def Wh (x y:Int):Int:=if x<y then 1 else 0
theorem aQt (x y b:Int) (hx:0<=x) (hy:0<=y) (hy':y<0x10000000000000000) (hb0:0<=b) (hb:b<=1) (w:World):(callFunc 141 #[.int .u64 x,.int .u64 y,.int .u64 b]).run Tryz.prog w =
 .ok (.value (.tuple #[.int .u64 ((x-y-b)%0x10000000000000000),.int .u64 (Wh x (y+b))])) w:=by
 obtain ⟨x,rfl⟩:=Int.eq_ofNat_of_zero_le hx
 obtain ⟨y,rfl⟩:=Int.eq_ofNat_of_zero_le hy
 obtain ⟨b,rfl⟩:=Int.eq_ofNat_of_zero_le hb0
 have e1:(((x+0x10000000000000000-y-b)%0x10000000000000000:Nat):Int)=((x:Int)-y-b)%0x10000000000000000:=by omega
 have e2:((if x<y+b then 1 else 0:Nat):Int)=Wh x (y+b):=by unfold Wh;split<;>split<;>omega
 rw [← e1,← e2,run_callFunc_extern Tryz.func141 (by kernel_rfl) (by kernel_rfl) (by kernel_rfl) (e:=Go.Proofs.sub64Entry) (by kernel_rfl),Go.Proofs.run_sub64 x y b (by omega)]
 rfl
set_option maxHeartbeats 1000000 in
theorem Qs (x y:Int) (hx:jG x) (hy:jG y) (w:World):Calls Tryz.prog 273 #[.int .u64 x,.int .u64 y] w fun e w'=>e = .returned (.tuple #[.int .u64 (x*y/0x10000000000000000),.int .u64 (x*y%0x10000000000000000)])/\w'=w:=by
 obtain ⟨hx0,hx1⟩:=hx
 obtain ⟨hy0,hy1⟩:=hy
 obtain ⟨x,rfl⟩:=Int.eq_ofNat_of_zero_le hx0
 obtain ⟨y,rfl⟩:=Int.eq_ofNat_of_zero_le hy0
 have hx:x<0x10000000000000000:=by omega
 have hy:y<0x10000000000000000:=by omega
 obtain ⟨bd,bt,bw,hhi⟩:=Lib.mul64_hi x y hx hy
 have ba:=Lib.half_mul_le (a:=x/4294967296) (b:=y/4294967296) (by omega) (by omega)
 have bb:=Lib.half_mul_le (a:=x/4294967296) (b:=y%4294967296) (by omega) (by omega)
 have bc:=Lib.half_mul_le (a:=x%4294967296) (b:=y/4294967296) (by omega) (by omega)
 have ba':x/4294967296*(y/4294967296)<0x10000000000000000:=by omega
 have bb':x/4294967296*(y%4294967296)<0x10000000000000000:=by omega
 have bc':x%4294967296*(y/4294967296)<0x10000000000000000:=by omega
 have bh1:x/4294967296*(y/4294967296)+(x/4294967296*(y%4294967296)+x%4294967296*(y%4294967296)/4294967296)/4294967296<0x10000000000000000:=by omega
 have bh:x/4294967296*(y/4294967296)+(x/4294967296*(y%4294967296)+x%4294967296*(y%4294967296)/4294967296)/4294967296+((x/4294967296*(y%4294967296)+x%4294967296*(y%4294967296)/4294967296)%4294967296+x%4294967296*(y/4294967296))/4294967296<0x10000000000000000:=by omega
 go_enter Tryz.func273,Tryz.ntmps273
 go_wp2
 simp only [Go.Proofs.Mul64.maskN x hx,Go.Proofs.Mul64.maskN y hy,Go.Proofs.Mul64.divN,Go.Proofs.Mul64.mulN,Go.Proofs.Mul64.addN,Go.Proofs.Mul64.wrapN _ bd,Go.Proofs.Mul64.wrapN _ bb',Go.Proofs.Mul64.wrapN _ bt,Go.Proofs.Mul64.maskN _ bt,Go.Proofs.Mul64.wrapN _ bc',Go.Proofs.Mul64.wrapN _ bw,Go.Proofs.Mul64.wrapN _ ba',Go.Proofs.Mul64.wrapN _ bh1,Go.Proofs.Mul64.wrapN _ bh,Go.Proofs.Mul64.wrapM (x*y)]
 rw [hhi]
 go_ret2
 exact ⟨rfl,rfl⟩
theorem aB8 (b:Nat) (x y lo hi z0 z1 z2 z3 s0 k0 s1 k1 s2 k2 s3 k3:Int) (hx:jG x) (hy:jG y) (hlo:x*y%0x10000000000000000=lo) (hhi:x*y/0x10000000000000000=hi) (w:World)
 (A0 : ∀ w,(callFunc 137 #[.int .u64 z0,.int .u64 lo,.int .u64 0]).run Tryz.prog w = .ok (.value (.tuple #[.int .u64 s0,.int .u64 k0])) w)
 (A1 : ∀ w,(callFunc 137 #[.int .u64 z1,.int .u64 hi,.int .u64 k0]).run Tryz.prog w = .ok (.value (.tuple #[.int .u64 s1,.int .u64 k1])) w)
 (A2 : ∀ w,(callFunc 137 #[.int .u64 z2,.int .u64 0,.int .u64 k1]).run Tryz.prog w = .ok (.value (.tuple #[.int .u64 s2,.int .u64 k2])) w)
 (A3 : ∀ w,(callFunc 137 #[.int .u64 z3,.int .u64 0,.int .u64 k2]).run Tryz.prog w = .ok (.value (.tuple #[.int .u64 s3,.int .u64 k3])) w)
 (c0:w.cell? ⟨b,0,none⟩=some (.int .u64 z0)) (c1:w.cell? ⟨b,1,none⟩=some (.int .u64 z1)) (c2:w.cell? ⟨b,2,none⟩=some (.int .u64 z2)) (c3:w.cell? ⟨b,3,none⟩=some (.int .u64 z3))
 (f0:w.frozen? ⟨b,0,none⟩=false) (f1:w.frozen? ⟨b,1,none⟩=false) (f2:w.frozen? ⟨b,2,none⟩=false) (f3:w.frozen? ⟨b,3,none⟩=false) :
 Calls Tryz.prog 253 #[.pointer (some ⟨b,0,none⟩),.int .u64 x,.int .u64 y,.int .i64 0] w fun e w'=>e = .returned (.tuple #[])/\w'=((((w.setCell ⟨b,0,none⟩ (.int .u64 s0)).setCell ⟨b,1,none⟩ (.int .u64 s1)).setCell ⟨b,2,none⟩ (.int .u64 s2)).setCell ⟨b,3,none⟩ (.int .u64 s3)).drew.drew.drew.drew:=by
 go_enter Tryz.func253,Tryz.ntmps253
 go_wp2_with (go_at_call 273;refine (Qs x y hx hy _).mono ?_;rintro e w' ⟨rfl,rfl⟩;rw [hlo,hhi];clear hlo hhi)
 go_region
 go_wp2
 go_region
 go_wp2
 refine wp_loop_rounds 3 ?_
 rw [rounds_succ]
 go_wp2
 go_region
 go_wp2
 rw [rounds_succ]
 go_wp2
 go_region
 go_wp2
 rw [rounds_succ]
 go_wp2
 go_end0
 exact ⟨rfl,rfl⟩
theorem aGW (b:Nat) (x y lo hi z0 z1 z2 z3 s1 k1 s2 k2 s3 k3:Int) (hx:jG x) (hy:jG y) (hlo:x*y%0x10000000000000000=lo) (hhi:x*y/0x10000000000000000=hi) (w:World)
 (A1 : ∀ w,(callFunc 137 #[.int .u64 z1,.int .u64 lo,.int .u64 0]).run Tryz.prog w = .ok (.value (.tuple #[.int .u64 s1,.int .u64 k1])) w)
 (A2 : ∀ w,(callFunc 137 #[.int .u64 z2,.int .u64 hi,.int .u64 k1]).run Tryz.prog w = .ok (.value (.tuple #[.int .u64 s2,.int .u64 k2])) w)
 (A3 : ∀ w,(callFunc 137 #[.int .u64 z3,.int .u64 0,.int .u64 k2]).run Tryz.prog w = .ok (.value (.tuple #[.int .u64 s3,.int .u64 k3])) w)
 (c1:w.cell? ⟨b,1,none⟩=some (.int .u64 z1)) (c2:w.cell? ⟨b,2,none⟩=some (.int .u64 z2)) (c3:w.cell? ⟨b,3,none⟩=some (.int .u64 z3))
 (f1:w.frozen? ⟨b,1,none⟩=false) (f2:w.frozen? ⟨b,2,none⟩=false) (f3:w.frozen? ⟨b,3,none⟩=false) :
 Calls Tryz.prog 253 #[.pointer (some ⟨b,0,none⟩),.int .u64 x,.int .u64 y,.int .i64 1] w fun e w'=>e = .returned (.tuple #[])/\w'=(((w.setCell ⟨b,1,none⟩ (.int .u64 s1)).setCell ⟨b,2,none⟩ (.int .u64 s2)).setCell ⟨b,3,none⟩ (.int .u64 s3)).drew.drew.drew:=by
 go_enter Tryz.func253,Tryz.ntmps253
 go_wp2_with (go_at_call 273;refine (Qs x y hx hy _).mono ?_;rintro e w' ⟨rfl,rfl⟩;rw [hlo,hhi];clear hlo hhi)
 go_region
 go_wp2
 go_region
 go_wp2
 refine wp_loop_rounds 2 ?_
 rw [rounds_succ]
 go_wp2
 go_region
 go_wp2
 rw [rounds_succ]
 go_wp2
 go_end0
 exact ⟨rfl,rfl⟩
theorem aMj (b:Nat) (x y lo hi z0 z1 z2 z3 s2 k2 s3 k3:Int) (hx:jG x) (hy:jG y) (hlo:x*y%0x10000000000000000=lo) (hhi:x*y/0x10000000000000000=hi) (w:World)
 (A2 : ∀ w,(callFunc 137 #[.int .u64 z2,.int .u64 lo,.int .u64 0]).run Tryz.prog w = .ok (.value (.tuple #[.int .u64 s2,.int .u64 k2])) w)
 (A3 : ∀ w,(callFunc 137 #[.int .u64 z3,.int .u64 hi,.int .u64 k2]).run Tryz.prog w = .ok (.value (.tuple #[.int .u64 s3,.int .u64 k3])) w)
 (c2:w.cell? ⟨b,2,none⟩=some (.int .u64 z2)) (c3:w.cell? ⟨b,3,none⟩=some (.int .u64 z3))
 (f2:w.frozen? ⟨b,2,none⟩=false) (f3:w.frozen? ⟨b,3,none⟩=false) :
 Calls Tryz.prog 253 #[.pointer (some ⟨b,0,none⟩),.int .u64 x,.int .u64 y,.int .i64 2] w fun e w'=>e = .returned (.tuple #[])/\w'=((w.setCell ⟨b,2,none⟩ (.int .u64 s2)).setCell ⟨b,3,none⟩ (.int .u64 s3)).drew.drew:=by
 go_enter Tryz.func253,Tryz.ntmps253
 go_wp2_with (go_at_call 273;refine (Qs x y hx hy _).mono ?_;rintro e w' ⟨rfl,rfl⟩;rw [hlo,hhi];clear hlo hhi)
 go_region
 go_wp2
 go_region
 go_wp2
 refine wp_loop_rounds 1 ?_
 rw [rounds_succ]
 go_wp2
 go_end0
 exact ⟨rfl,rfl⟩
theorem aJU (b:Nat) (x y z0 z1 z2 z3:Int) (hx:jG x) (hy:jG y) (Z00:0<=z0) (Z01:z0<0x10000000000000000) (Z10:0<=z1) (Z11:z1<0x10000000000000000) (Z20:0<=z2) (Z21:z2<0x10000000000000000) (Z30:0<=z3) (Z31:z3<0x10000000000000000) (hV:z0+z1*0x10000000000000000+z2*0x100000000000000000000000000000000+z3*0x1000000000000000000000000000000000000000000000000+x*y*1<0x10000000000000000000000000000000000000000000000000000000000000000) (w:World)
 (c0:w.cell? ⟨b,0,none⟩=some (.int .u64 z0)) (c1:w.cell? ⟨b,1,none⟩=some (.int .u64 z1)) (c2:w.cell? ⟨b,2,none⟩=some (.int .u64 z2)) (c3:w.cell? ⟨b,3,none⟩=some (.int .u64 z3))
 (f0:w.frozen? ⟨b,0,none⟩=false) (f1:w.frozen? ⟨b,1,none⟩=false) (f2:w.frozen? ⟨b,2,none⟩=false) (f3:w.frozen? ⟨b,3,none⟩=false) :
 Calls Tryz.prog 253 #[.pointer (some ⟨b,0,none⟩),.int .u64 x,.int .u64 y,.int .i64 0] w fun e w'=>e = .returned (.tuple #[]) /\ ∃ s0 s1 s2 s3:Int,(0<=s0/\s0<0x10000000000000000/\0<=s1/\s1<0x10000000000000000/\0<=s2/\s2<0x10000000000000000/\0<=s3/\s3<0x10000000000000000/\s0+s1*0x10000000000000000+s2*0x100000000000000000000000000000000+s3*0x1000000000000000000000000000000000000000000000000=z0+z1*0x10000000000000000+z2*0x100000000000000000000000000000000+z3*0x1000000000000000000000000000000000000000000000000+x*y*1)/\w'=((((w.setCell ⟨b,0,none⟩ (.int .u64 s0)).setCell ⟨b,1,none⟩ (.int .u64 s1)).setCell ⟨b,2,none⟩ (.int .u64 s2)).setCell ⟨b,3,none⟩ (.int .u64 s3)).drew.drew.drew.drew:=by
 have ⟨hx0,hx1⟩:=hx
 have ⟨hy0,hy1⟩:=hy
 have p0:0<=x*y:=Int.mul_nonneg hx0 hy0
 have p1:x*y<0x100000000000000000000000000000000:=by
  have:=Int.mul_le_mul (show x<=0xffffffffffffffff by omega) (show y<=0xffffffffffffffff by omega) hy0 (by decide)
  omega
 have d0:0<=x*y/0x10000000000000000:=by omega
 have d1:x*y/0x10000000000000000<0x10000000000000000:=by omega
 have m0:0<=x*y%0x10000000000000000:=by omega
 have m1:x*y%0x10000000000000000<0x10000000000000000:=by omega
 have hp:x*y=x*y%0x10000000000000000+x*y/0x10000000000000000*0x10000000000000000:=by omega
 generalize hlo:x*y%0x10000000000000000=lo at m0 m1 hp
 generalize hhi:x*y/0x10000000000000000=hi at d0 d1 hp
 obtain ⟨s0,hs0⟩ : ∃ s,(z0+lo)%0x10000000000000000=s:=⟨_,rfl⟩
 obtain ⟨k0,hk0⟩ : ∃ k,(z0+lo)/0x10000000000000000=k:=⟨_,rfl⟩
 have sb0:0<=s0/\s0<0x10000000000000000:=by omega
 have kb0:0<=k0/\k0<=1:=by omega
 obtain ⟨s1,hs1⟩ : ∃ s,(z1+hi+k0)%0x10000000000000000=s:=⟨_,rfl⟩
 obtain ⟨k1,hk1⟩ : ∃ k,(z1+hi+k0)/0x10000000000000000=k:=⟨_,rfl⟩
 have sb1:0<=s1/\s1<0x10000000000000000:=by omega
 have kb1:0<=k1/\k1<=1:=by omega
 obtain ⟨s2,hs2⟩ : ∃ s,(z2+0+k1)%0x10000000000000000=s:=⟨_,rfl⟩
 obtain ⟨k2,hk2⟩ : ∃ k,(z2+0+k1)/0x10000000000000000=k:=⟨_,rfl⟩
 have sb2:0<=s2/\s2<0x10000000000000000:=by omega
 have kb2:0<=k2/\k2<=1:=by omega
 obtain ⟨s3,hs3⟩ : ∃ s,(z3+0+k2)%0x10000000000000000=s:=⟨_,rfl⟩
 obtain ⟨k3,hk3⟩ : ∃ k,(z3+0+k2)/0x10000000000000000=k:=⟨_,rfl⟩
 have sb3:0<=s3/\s3<0x10000000000000000:=by omega
 have kb3:0<=k3/\k3<=1:=by omega
 have key:s0+s1*0x10000000000000000+s2*0x100000000000000000000000000000000+s3*0x1000000000000000000000000000000000000000000000000=z0+z1*0x10000000000000000+z2*0x100000000000000000000000000000000+z3*0x1000000000000000000000000000000000000000000000000+x*y*1:=by
  rw [hp] at hV ⊢
  omega
 refine (aB8 b x y lo hi z0 z1 z2 z3 s0 k0 s1 k1 s2 k2 s3 k3 hx hy hlo hhi w (fun w=>by rw [Uf z0 lo Z00 m0 w,hs0,hk0]) (fun w=>by rw [Ay z1 hi k0 Z10 d0 kb0.1 kb0.2 w,hs1,hk1]) (fun w=>by rw [Ay z2 0 k1 Z20 (by decide) kb1.1 kb1.2 w,hs2,hk2]) (fun w=>by rw [Ay z3 0 k2 Z30 (by decide) kb2.1 kb2.2 w,hs3,hk3]) c0 c1 c2 c3 f0 f1 f2 f3).mono ?_
 rintro e w' ⟨rfl,rfl⟩
 exact ⟨rfl,s0,s1,s2,s3,⟨sb0.1,sb0.2,sb1.1,sb1.2,sb2.1,sb2.2,sb3.1,sb3.2,key⟩,rfl⟩
theorem G8 (b:Nat) (x y z0 z1 z2 z3:Int) (hx:jG x) (hy:jG y) (Z00:0<=z0) (Z01:z0<0x10000000000000000) (Z10:0<=z1) (Z11:z1<0x10000000000000000) (Z20:0<=z2) (Z21:z2<0x10000000000000000) (Z30:0<=z3) (Z31:z3<0x10000000000000000) (hV:z0+z1*0x10000000000000000+z2*0x100000000000000000000000000000000+z3*0x1000000000000000000000000000000000000000000000000+x*y*0x10000000000000000<0x10000000000000000000000000000000000000000000000000000000000000000) (w:World)
 (c1:w.cell? ⟨b,1,none⟩=some (.int .u64 z1)) (c2:w.cell? ⟨b,2,none⟩=some (.int .u64 z2)) (c3:w.cell? ⟨b,3,none⟩=some (.int .u64 z3))
 (f1:w.frozen? ⟨b,1,none⟩=false) (f2:w.frozen? ⟨b,2,none⟩=false) (f3:w.frozen? ⟨b,3,none⟩=false) :
 Calls Tryz.prog 253 #[.pointer (some ⟨b,0,none⟩),.int .u64 x,.int .u64 y,.int .i64 1] w fun e w'=>e = .returned (.tuple #[]) /\ ∃ s1 s2 s3:Int,(0<=s1/\s1<0x10000000000000000/\0<=s2/\s2<0x10000000000000000/\0<=s3/\s3<0x10000000000000000/\z0+s1*0x10000000000000000+s2*0x100000000000000000000000000000000+s3*0x1000000000000000000000000000000000000000000000000=z0+z1*0x10000000000000000+z2*0x100000000000000000000000000000000+z3*0x1000000000000000000000000000000000000000000000000+x*y*0x10000000000000000)/\w'=(((w.setCell ⟨b,1,none⟩ (.int .u64 s1)).setCell ⟨b,2,none⟩ (.int .u64 s2)).setCell ⟨b,3,none⟩ (.int .u64 s3)).drew.drew.drew:=by
 have ⟨hx0,hx1⟩:=hx
 have ⟨hy0,hy1⟩:=hy
 have p0:0<=x*y:=Int.mul_nonneg hx0 hy0
 have p1:x*y<0x100000000000000000000000000000000:=by
  have:=Int.mul_le_mul (show x<=0xffffffffffffffff by omega) (show y<=0xffffffffffffffff by omega) hy0 (by decide)
  omega
 have d0:0<=x*y/0x10000000000000000:=by omega
 have d1:x*y/0x10000000000000000<0x10000000000000000:=by omega
 have m0:0<=x*y%0x10000000000000000:=by omega
 have m1:x*y%0x10000000000000000<0x10000000000000000:=by omega
 have hp:x*y=x*y%0x10000000000000000+x*y/0x10000000000000000*0x10000000000000000:=by omega
 generalize hlo:x*y%0x10000000000000000=lo at m0 m1 hp
 generalize hhi:x*y/0x10000000000000000=hi at d0 d1 hp
 obtain ⟨s1,hs1⟩ : ∃ s,(z1+lo)%0x10000000000000000=s:=⟨_,rfl⟩
 obtain ⟨k1,hk1⟩ : ∃ k,(z1+lo)/0x10000000000000000=k:=⟨_,rfl⟩
 have sb1:0<=s1/\s1<0x10000000000000000:=by omega
 have kb1:0<=k1/\k1<=1:=by omega
 obtain ⟨s2,hs2⟩ : ∃ s,(z2+hi+k1)%0x10000000000000000=s:=⟨_,rfl⟩
 obtain ⟨k2,hk2⟩ : ∃ k,(z2+hi+k1)/0x10000000000000000=k:=⟨_,rfl⟩
 have sb2:0<=s2/\s2<0x10000000000000000:=by omega
 have kb2:0<=k2/\k2<=1:=by omega
 obtain ⟨s3,hs3⟩ : ∃ s,(z3+0+k2)%0x10000000000000000=s:=⟨_,rfl⟩
 obtain ⟨k3,hk3⟩ : ∃ k,(z3+0+k2)/0x10000000000000000=k:=⟨_,rfl⟩
 have sb3:0<=s3/\s3<0x10000000000000000:=by omega
 have kb3:0<=k3/\k3<=1:=by omega
 have key:z0+s1*0x10000000000000000+s2*0x100000000000000000000000000000000+s3*0x1000000000000000000000000000000000000000000000000=z0+z1*0x10000000000000000+z2*0x100000000000000000000000000000000+z3*0x1000000000000000000000000000000000000000000000000+x*y*0x10000000000000000:=by
  rw [hp] at hV ⊢
  omega
 refine (aGW b x y lo hi z0 z1 z2 z3 s1 k1 s2 k2 s3 k3 hx hy hlo hhi w (fun w=>by rw [Uf z1 lo Z10 m0 w,hs1,hk1]) (fun w=>by rw [Ay z2 hi k1 Z20 d0 kb1.1 kb1.2 w,hs2,hk2]) (fun w=>by rw [Ay z3 0 k2 Z30 (by decide) kb2.1 kb2.2 w,hs3,hk3]) c1 c2 c3 f1 f2 f3).mono ?_
 rintro e w' ⟨rfl,rfl⟩
 exact ⟨rfl,s1,s2,s3,⟨sb1.1,sb1.2,sb2.1,sb2.2,sb3.1,sb3.2,key⟩,rfl⟩
theorem aBX (b:Nat) (x y z0 z1 z2 z3:Int) (hx:jG x) (hy:jG y) (Z00:0<=z0) (Z01:z0<0x10000000000000000) (Z10:0<=z1) (Z11:z1<0x10000000000000000) (Z20:0<=z2) (Z21:z2<0x10000000000000000) (Z30:0<=z3) (Z31:z3<0x10000000000000000) (hV:z0+z1*0x10000000000000000+z2*0x100000000000000000000000000000000+z3*0x1000000000000000000000000000000000000000000000000+x*y*0x100000000000000000000000000000000<0x10000000000000000000000000000000000000000000000000000000000000000) (w:World)
 (c2:w.cell? ⟨b,2,none⟩=some (.int .u64 z2)) (c3:w.cell? ⟨b,3,none⟩=some (.int .u64 z3))
 (f2:w.frozen? ⟨b,2,none⟩=false) (f3:w.frozen? ⟨b,3,none⟩=false) :
 Calls Tryz.prog 253 #[.pointer (some ⟨b,0,none⟩),.int .u64 x,.int .u64 y,.int .i64 2] w fun e w'=>e = .returned (.tuple #[]) /\ ∃ s2 s3:Int,(0<=s2/\s2<0x10000000000000000/\0<=s3/\s3<0x10000000000000000/\z0+z1*0x10000000000000000+s2*0x100000000000000000000000000000000+s3*0x1000000000000000000000000000000000000000000000000=z0+z1*0x10000000000000000+z2*0x100000000000000000000000000000000+z3*0x1000000000000000000000000000000000000000000000000+x*y*0x100000000000000000000000000000000)/\w'=((w.setCell ⟨b,2,none⟩ (.int .u64 s2)).setCell ⟨b,3,none⟩ (.int .u64 s3)).drew.drew:=by
 have ⟨hx0,hx1⟩:=hx
 have ⟨hy0,hy1⟩:=hy
 have p0:0<=x*y:=Int.mul_nonneg hx0 hy0
 have p1:x*y<0x100000000000000000000000000000000:=by
  have:=Int.mul_le_mul (show x<=0xffffffffffffffff by omega) (show y<=0xffffffffffffffff by omega) hy0 (by decide)
  omega
 have d0:0<=x*y/0x10000000000000000:=by omega
 have d1:x*y/0x10000000000000000<0x10000000000000000:=by omega
 have m0:0<=x*y%0x10000000000000000:=by omega
 have m1:x*y%0x10000000000000000<0x10000000000000000:=by omega
 have hp:x*y=x*y%0x10000000000000000+x*y/0x10000000000000000*0x10000000000000000:=by omega
 generalize hlo:x*y%0x10000000000000000=lo at m0 m1 hp
 generalize hhi:x*y/0x10000000000000000=hi at d0 d1 hp
 obtain ⟨s2,hs2⟩ : ∃ s,(z2+lo)%0x10000000000000000=s:=⟨_,rfl⟩
 obtain ⟨k2,hk2⟩ : ∃ k,(z2+lo)/0x10000000000000000=k:=⟨_,rfl⟩
 have sb2:0<=s2/\s2<0x10000000000000000:=by omega
 have kb2:0<=k2/\k2<=1:=by omega
 obtain ⟨s3,hs3⟩ : ∃ s,(z3+hi+k2)%0x10000000000000000=s:=⟨_,rfl⟩
 obtain ⟨k3,hk3⟩ : ∃ k,(z3+hi+k2)/0x10000000000000000=k:=⟨_,rfl⟩
 have sb3:0<=s3/\s3<0x10000000000000000:=by omega
 have kb3:0<=k3/\k3<=1:=by omega
 have key:z0+z1*0x10000000000000000+s2*0x100000000000000000000000000000000+s3*0x1000000000000000000000000000000000000000000000000=z0+z1*0x10000000000000000+z2*0x100000000000000000000000000000000+z3*0x1000000000000000000000000000000000000000000000000+x*y*0x100000000000000000000000000000000:=by
  rw [hp] at hV ⊢
  omega
 refine (aMj b x y lo hi z0 z1 z2 z3 s2 k2 s3 k3 hx hy hlo hhi w (fun w=>by rw [Uf z2 lo Z20 m0 w,hs2,hk2]) (fun w=>by rw [Ay z3 hi k2 Z30 d0 kb2.1 kb2.2 w,hs3,hk3]) c2 c3 f2 f3).mono ?_
 rintro e w' ⟨rfl,rfl⟩
 exact ⟨rfl,s2,s3,⟨sb2.1,sb2.2,sb3.1,sb3.2,key⟩,rfl⟩
def Jf.f (a0_0 a0_1 a1_0 a1_1:Int):Option (Int×Int×Int×Int):=
 if jG a0_0/\jG a0_1/\jG a1_0/\jG a1_1 then
  some ((a0_0*0x10000000000000000+a0_1)*(a1_0*0x10000000000000000+a1_1)/0x1000000000000000000000000000000000000000000000000,(a0_0*0x10000000000000000+a0_1)*(a1_0*0x10000000000000000+a1_1)/0x100000000000000000000000000000000%0x10000000000000000,(a0_0*0x10000000000000000+a0_1)*(a1_0*0x10000000000000000+a1_1)/0x10000000000000000%0x10000000000000000,(a0_0*0x10000000000000000+a0_1)*(a1_0*0x10000000000000000+a1_1)%0x10000000000000000)
 else none
theorem Jf.calls (a0_0:Int) (a0_1:Int) (a1_0:Int) (a1_1:Int) (r1:Int) (r2:Int) (r3:Int) (r4:Int) (w:World) (h:Jf.f a0_0 a0_1 a1_0 a1_1=some (r1,r2,r3,r4)) :
 Calls Tryz.prog 208 #[.agg #[.int .u64 a0_0,.int .u64 a0_1],.agg #[.int .u64 a1_0,.int .u64 a1_1]] w fun e w'=>e = .returned (.tuple #[.agg #[.int .u64 r1,.int .u64 r2],.agg #[.int .u64 r3,.int .u64 r4]])/\Below w.heap.size w w':=by
 unfold Jf.f at h
 split at h
 ·rename_i hr
  obtain ⟨q1,q2,q3,q4⟩:=hr
  simp only [Option.some.injEq,Prod.mk.injEq] at h
  have e0:(a0_0*0x10000000000000000+a0_1)*(a1_0*0x10000000000000000+a1_1)=a0_1*a1_1*1+a0_1*a1_0*0x10000000000000000+a0_0*a1_1*0x10000000000000000+a0_0*a1_0*0x100000000000000000000000000000000:=by grind
  have n1:0<=a0_1*a1_1:=Int.mul_nonneg q2.1 q4.1
  have n2:0<=a0_1*a1_0:=Int.mul_nonneg q2.1 q3.1
  have n3:0<=a0_0*a1_1:=Int.mul_nonneg q1.1 q4.1
  have n4:0<=a0_0*a1_0:=Int.mul_nonneg q1.1 q3.1
  have e1:(a0_0*0x10000000000000000+a0_1)*(a1_0*0x10000000000000000+a1_1)<0x10000000000000000000000000000000000000000000000000000000000000000:=by
   have h1:0<=a0_0*0x10000000000000000+a0_1:=by have:=q1.1;have:=q2.1;omega
   have h2:0<=a1_0*0x10000000000000000+a1_1:=by have:=q3.1;have:=q4.1;omega
   have h3:a0_0*0x10000000000000000+a0_1<0x100000000000000000000000000000000:=by have:=q1.2;have:=q2.2;omega
   have h4:a1_0*0x10000000000000000+a1_1<0x100000000000000000000000000000000:=by have:=q3.2;have:=q4.2;omega
   have:=Int.mul_le_mul (Int.le_sub_one_of_lt h3) (Int.le_sub_one_of_lt h4) h2 (by decide)
   omega
  rw [e0] at h e1
  clear e0
  have E:=Lib.hid e1
  have HR:=Lib.hid h
  have N1:=Lib.hid n1
  have N2:=Lib.hid n2
  have N3:=Lib.hid n3
  have N4:=Lib.hid n4
  clear e1 h n1 n2 n3 n4
  go_enter Tryz.func208,Tryz.ntmps208
  go_wp2_with fail
  refine (aJU _ a0_1 a1_1 0 0 0 0 q2 q4 (by decide) (by decide) (by decide) (by decide) (by decide) (by decide) (by decide) (by decide) (by have:=E.out;have:=N1.out;have:=N2.out;have:=N3.out;have:=N4.out;omega) _ (by simp [go_sem]) (by simp [go_sem]) (by simp [go_sem]) (by simp [go_sem]) (by simp [go_sem]) (by simp [go_sem]) (by simp [go_sem]) (by simp [go_sem])).mono ?_
  rintro e w1 ⟨rfl,s0,s1,s2,s3,⟨b0,b0',b1,b1',b2,b2',b3,b3',key⟩,rfl⟩
  have K1:=Lib.hid key
  clear key
  go_wp2_with fail
  refine (G8 _ a0_1 a1_0 s0 s1 s2 s3 q2 q3 b0 b0' b1 b1' b2 b2' b3 b3' (by have:=E.out;have:=N1.out;have:=N2.out;have:=N3.out;have:=N4.out;have:=K1.out;omega) _ (by simp [go_sem]) (by simp [go_sem]) (by simp [go_sem]) (by simp [go_sem]) (by simp [go_sem]) (by simp [go_sem])).mono ?_
  rintro e w1 ⟨rfl,t1,t2,t3,⟨d1,d1',d2,d2',d3,d3',key⟩,rfl⟩
  have K2:=Lib.hid key
  clear key
  go_wp2_with fail
  refine (G8 _ a0_0 a1_1 s0 t1 t2 t3 q1 q4 b0 b0' d1 d1' d2 d2' d3 d3' (by have:=E.out;have:=N1.out;have:=N2.out;have:=N3.out;have:=N4.out;have:=K1.out;have:=K2.out;omega) _ (by simp [go_sem]) (by simp [go_sem]) (by simp [go_sem]) (by simp [go_sem]) (by simp [go_sem]) (by simp [go_sem])).mono ?_
  rintro e w1 ⟨rfl,u1,u2,u3,⟨g1,g1',g2,g2',g3,g3',key⟩,rfl⟩
  have K3:=Lib.hid key
  clear key
  go_wp2_with fail
  refine (aBX _ a0_0 a1_0 s0 u1 u2 u3 q1 q3 b0 b0' g1 g1' g2 g2' g3 g3' (by have:=E.out;have:=N1.out;have:=N2.out;have:=N3.out;have:=N4.out;have:=K1.out;have:=K2.out;have:=K3.out;omega) _ (by simp [go_sem]) (by simp [go_sem]) (by simp [go_sem]) (by simp [go_sem])).mono ?_
  rintro e w1 ⟨rfl,v2,v3,⟨j2,j2',j3,j3',key⟩,rfl⟩
  have K4:=Lib.hid key
  clear key
  go_wp2_with fail
  have F:r1=v3/\r2=v2/\r3=u1/\r4=s0:=by
   obtain ⟨z1,z2,z3,z4⟩:=HR.out
   have:=K1.out
   have:=K2.out
   have:=K3.out
   have:=K4.out
   generalize a0_1*a1_1=p1 at *
   generalize a0_1*a1_0=p2 at *
   generalize a0_0*a1_1=p3 at *
   generalize a0_0*a1_0=p4 at *
   clear E HR K1 K2 K3 K4
   omega
  clear HR E K1 K2 K3 K4 N1 N2 N3 N4
  obtain ⟨rfl,rfl,rfl,rfl⟩:=F
  go_region
  go_wp2
  simp [bodyPost,results,Tryz.results208,go_sem]
  repeat (with_reducible first | exact Below.refl _ _ | apply aQd | apply aJo | refine aFa ?_ (by omega))
 ·cases h
end Go.Proofs.YtfcbohachbeamaaGreatDoor.E
namespace Go.Proofs.YtfcbohachbeamaaGreatDoor.E
open Go.RowKit
theorem aKT (x:Int) (w:World) (h1:0<=x) (h2:x<0x10000000000000000):Calls Tryz.prog 290 #[.int .u64 x] w fun e w'=>e = .returned (.int .i64 (64-(Lib.bitLen x.toNat:Int)))/\w'=w:=by
 refine (Tryz.bits_LeadingZeros64 x w h1 (by omega)).mono ?_
 rintro e w' ⟨rfl,rfl⟩
 exact ⟨rfl,rfl⟩
end Go.Proofs.YtfcbohachbeamaaGreatDoor.E
namespace Go.Proofs.YtfcbohachbeamaaGreatDoor.E
open Go.VC Go.RowKit
abbrev iv (k:IntKind) (x:Int):AP:= .c (.v (.int k x))
abbrev bv (b:Bool):AP:= .c (.v (.bool b))
theorem Ed {L:aY} {w:World} {k:IntKind} {x:Int} {y:Value} (h:(iv k x).rep L w y):y = .int k x:=h.1
def Ke:List AP->Option AV
 | [.c (.v (.int .u64 x)),.c (.v (.int .u64 y)),.c (.v (.int .u64 c))]=>if 0<=x/\0<=y/\0<=c/\c<=1 then some (.t [iv .u64 ((x+y+c)%0x10000000000000000),iv .u64 ((x+y+c)/0x10000000000000000)]) else none
 | _=>none
theorem aCZ:Ok Tryz.prog 137 Ke:=by
 intro av r h
 unfold Ke at h
 split at h
 ·rename_i x y c
  split at h
  ·rename_i hc
   cases h
   refine .inr (.inl ⟨rfl,fun w vs hr=> ?_⟩)
   match vs,hr with
   | [a,b,d],hr=>
    obtain ⟨h1,h2,h3,_⟩:=hr
    obtain rfl:=Ed h1
    obtain rfl:=Ed h2
    obtain rfl:=Ed h3
    exact ⟨_,Ay x y c hc.1 hc.2.1 hc.2.2.1 hc.2.2.2 w,fun L w'=>⟨_,rfl,⟨rfl,rfl⟩,⟨rfl,rfl⟩,trivial⟩⟩
   | [],hr=>exact hr.elim
   | [a],hr=>exact hr.2.elim
   | [a,b],hr=>exact hr.2.2.elim
   | a::b::d::e::l,hr=>exact hr.2.2.2.elim
  ·cases h
 ·cases h
def Ex:List AP->Option AV
 | [.c (.v (.int .u64 x)),.c (.v (.int .u64 y)),.c (.v (.int .u64 c))]=>if 0<=x/\0<=y/\y<0x10000000000000000/\0<=c/\c<=1 then some (.t [iv .u64 ((x-y-c)%0x10000000000000000),iv .u64 (if x<y+c then 1 else 0)]) else none
 | _=>none
theorem aN0:Ok Tryz.prog 141 Ex:=by
 intro av r h
 unfold Ex at h
 split at h
 ·rename_i x y c
  split at h
  ·rename_i hc
   cases h
   refine .inr (.inl ⟨rfl,fun w vs hr=> ?_⟩)
   match vs,hr with
   | [a,b,d],hr=>
    obtain ⟨h1,h2,h3,_⟩:=hr
    obtain rfl:=Ed h1
    obtain rfl:=Ed h2
    obtain rfl:=Ed h3
    exact ⟨_,aQt x y c hc.1 hc.2.1 hc.2.2.1 hc.2.2.2.1 hc.2.2.2.2 w,fun L w'=>⟨_,rfl,⟨rfl,rfl⟩,⟨rfl,rfl⟩,trivial⟩⟩
   | [],hr=>exact hr.elim
   | [a],hr=>exact hr.2.elim
   | [a,b],hr=>exact hr.2.2.elim
   | a::b::d::e::l,hr=>exact hr.2.2.2.elim
  ·cases h
 ·cases h
def Us:List AP->Option AV
 | [.c (.v (.int .u64 x))]=>if 0<=x/\x<0x10000000000000000 then some (.o (iv .i64 (64-(Lib.bitLen x.toNat:Int)))) else none
 | _=>none
theorem aI5:Ok Tryz.prog 290 Us:=by
 intro av r h
 unfold Us at h
 split at h
 ·rename_i x
  split at h
  ·rename_i hc
   cases h
   refine .inl ⟨bits_LeadingZeros64.ent,rfl,fun S w vs hS _ hr=> ?_⟩
   match vs,hr with
   | [a],hr=>
    obtain rfl:=Ed hr.1
    refine (aKT x w hc.1 hc.2).mono ?_
    rintro e w' ⟨rfl,rfl⟩
    exact ⟨_,rfl,⟨rfl,rfl⟩,Below.refl _ _⟩
   | [],hr=>exact hr.elim
   | a::b::l,hr=>exact hr.2.elim
  ·cases h
 ·cases h
def dA:List AP->Option AV
 | [a,b]=>match dL a,dL b with
  | some x,some y=>some (.t [lb (x*y/0x100000000000000000000000000000000),lb (x*y%0x100000000000000000000000000000000)])
  | _,_=>none
 | _=>none
theorem aAx:Ok Tryz.prog 208 dA:=by
 intro av r h
 unfold dA at h
 split at h
 ·rename_i a b
  split at h
  ·rename_i x y hx hy
   cases h
   obtain ⟨rfl,hx0,hx1⟩:=lQ hx
   obtain ⟨rfl,hy0,hy1⟩:=lQ hy
   refine .inl ⟨enters Tryz.func208 (by kernel_rfl) (by kernel_rfl),rfl,fun S w vs hS _ hr=> ?_⟩
   match vs,hr with
   | [u,v],hr=>
    obtain ⟨⟨us,rfl,h1⟩,⟨vs,rfl,h2⟩,_⟩:=hr
    match us,h1,vs,h2 with
    | [u1,u0],h1,[v1,v0],h2=>
     obtain rfl:=h1.1.1
     obtain rfl:=h1.2.1.1
     obtain rfl:=h2.1.1
     obtain rfl:=h2.2.1.1
     have ex:x/0x10000000000000000*0x10000000000000000+x%0x10000000000000000=x:=by omega
     have ey:y/0x10000000000000000*0x10000000000000000+y%0x10000000000000000=y:=by omega
     have h:=Jf.calls (x/0x10000000000000000) (x%0x10000000000000000) (y/0x10000000000000000) (y%0x10000000000000000) (x*y/0x1000000000000000000000000000000000000000000000000) (x*y/0x100000000000000000000000000000000%0x10000000000000000) (x*y/0x10000000000000000%0x10000000000000000) (x*y%0x10000000000000000) w (by
      unfold Jf.f
      rw [if_pos ⟨⟨by omega,by omega⟩,⟨by omega,by omega⟩,⟨by omega,by omega⟩,⟨by omega,by omega⟩⟩,ex,ey])
     refine h.mono ?_
     rintro e w' ⟨rfl,hb⟩
     refine ⟨_,rfl,⟨_,rfl,⟨_,rfl,⟨?_,rfl⟩,⟨rfl,rfl⟩,trivial⟩,⟨_,rfl,⟨?_,rfl⟩,⟨?_,rfl⟩,trivial⟩,trivial⟩,hb⟩
     ·generalize x*y=z;congr 1;omega
     ·generalize x*y=z;congr 1;omega
     ·generalize x*y=z;congr 1;omega
    | [],h1,_,_=>exact h1.elim
    | [_],h1,_,_=>exact h1.2.elim
    | _::_::_::_,h1,_,_=>exact h1.2.2.elim
    | [_,_],_,[],h2=>exact h2.elim
    | [_,_],_,[_],h2=>exact h2.2.elim
    | [_,_],_,_::_::_::_,h2=>exact h2.2.2.elim
   | [],hr=>exact hr.elim
   | [_],hr=>exact hr.2.elim
   | _::_::_::_,hr=>exact hr.2.2.elim
  ·cases h
 ·cases h
end Go.Proofs.YtfcbohachbeamaaGreatDoor.E
namespace Go.Proofs.YtfcbohachbeamaaGreatDoor.E
open Go.VC Go.RowKit
abbrev aKI:List (Nat×(List AP->Option AV)):= [(137,Ke),(141,Ex)]
theorem J7:fA Tryz.prog (gV aKI):=aB aCZ (aB aN0 aH)
theorem Ek (x:Int):0<=x%0x10000000000000000:=by omega
theorem Jp (x:Int):x%0x10000000000000000<0x10000000000000000:=by omega
theorem bb {a b:Int} {p:Prop} [Decidable p] (h:a=b↔p):(a==b)=decide p:=by
 rw [Bool.eq_iff_iff];simpa using h
def dZ:List AP->Option AV
 | [a,b]=>match dL a,dL b with
  | some x,some y=>some (.t [lb (if 0x100000000000000000000000000000000<=x+y then x+y-0x100000000000000000000000000000000 else x+y),bv (decide (0x100000000000000000000000000000000<=x+y))])
  | _,_=>none
 | _=>none
theorem aQV:Ok Tryz.prog 104 dZ:=eE Tryz.func104 Af.ent Af.aA J7 fun av r h=>by
 unfold dZ at h
 split at h
 ·split at h
  ·rename_i x y hx hy
   cases h
   obtain ⟨rfl,hx0,hx1⟩:=lQ hx
   obtain ⟨rfl,hy0,hy1⟩:=lQ hy
   refine ⟨by simp [Af.c],0,?_⟩
   have c0:0<=(x%0x10000000000000000+y%0x10000000000000000)/0x10000000000000000:=by omega
   have c1:(x%0x10000000000000000+y%0x10000000000000000)/0x10000000000000000<=1:=by omega
   have x0:0<=x/0x10000000000000000:=by omega
   have y0:0<=y/0x10000000000000000:=by omega
   by_cases hov:0x100000000000000000000000000000000<=x+y
   ·simp [Af.c,lb,Ke,Ek,c0,c1,x0,y0,hov]
    omega
   ·simp [Af.c,lb,Ke,Ek,c0,c1,x0,y0,hov]
    omega
  ·cases h
 ·cases h
def bH:List AP->Option AV
 | [a,b]=>match dL a,dL b with
  | some x,some y=>some (.t [lb (if x<y then x-y+0x100000000000000000000000000000000 else x-y),bv (decide (x<y))])
  | _,_=>none
 | _=>none
theorem Jn:Ok Tryz.prog 109 bH:=eE Tryz.func109 sQ.ent sQ.aA J7 fun av r h=>by
 unfold bH at h
 split at h
 ·split at h
  ·rename_i x y hx hy
   cases h
   obtain ⟨rfl,hx0,hx1⟩:=lQ hx
   obtain ⟨rfl,hy0,hy1⟩:=lQ hy
   refine ⟨by simp [sQ.c],0,?_⟩
   have x0:0<=x/0x10000000000000000:=by omega
   have y0:0<=y/0x10000000000000000:=by omega
   have y1:y/0x10000000000000000<0x10000000000000000:=by omega
   by_cases hlt:x<y<;>by_cases hlo:x%0x10000000000000000<y%0x10000000000000000
   ·have hq:x/0x10000000000000000<y/0x10000000000000000+1:=by omega
    simp [sQ.c,lb,Ex,Ek,Jp,x0,y0,y1,hlo,hlt,hq]
    omega
   ·have hq:x/0x10000000000000000<y/0x10000000000000000:=by omega
    simp [sQ.c,lb,Ex,Ek,Jp,x0,y0,y1,hlo,hlt,hq]
    omega
   ·have hq : ¬ x/0x10000000000000000<y/0x10000000000000000+1:=by omega
    simp [sQ.c,lb,Ex,Ek,Jp,x0,y0,y1,hlo,hlt,hq]
    omega
   ·have hq : ¬ x/0x10000000000000000<y/0x10000000000000000:=by omega
    simp [sQ.c,lb,Ex,Ek,Jp,x0,y0,y1,hlo,hlt,hq]
    omega
  ·cases h
 ·cases h
def bI (x y:Int):Int:=if x=y then 0 else if x<y then -1 else 1
def kY:List AP->Option AV
 | [a,b]=>match dL a,dL b with
  | some x,some y=>some (.o (iv .i64 (bI x y)))
  | _,_=>none
 | _=>none
theorem C0:Ok Tryz.prog 254 kY:=eE Tryz.func254 rE.ent rE.aA aH fun av r h=>by
 unfold kY at h
 split at h
 ·split at h
  ·rename_i x y hx hy
   cases h
   obtain ⟨rfl,hx0,hx1⟩:=lQ hx
   obtain ⟨rfl,hy0,hy1⟩:=lQ hy
   refine ⟨by simp [rE.c],0,?_⟩
   rcases Int.lt_trichotomy (x/0x10000000000000000) (y/0x10000000000000000) with h1 | h1 | h1
   ·have e:bI x y = -1:=by unfold bI;rw [if_neg (by omega),if_pos (by omega)]
    have h2 : ¬ x/0x10000000000000000=y/0x10000000000000000:=by omega
    simp [rE.c,lb,h1,h2,e]
   ·rcases Int.lt_trichotomy (x%0x10000000000000000) (y%0x10000000000000000) with h3 | h3 | h3
    ·have e:bI x y = -1:=by unfold bI;rw [if_neg (by omega),if_pos (by omega)]
     have h4 : ¬ x%0x10000000000000000=y%0x10000000000000000:=by omega
     simp [rE.c,lb,h1,h3,h4,e]
    ·have e:bI x y=0:=by unfold bI;rw [if_pos (by omega)]
     simp [rE.c,lb,h1,h3,e]
    ·have e:bI x y=1:=by unfold bI;rw [if_neg (by omega),if_neg (by omega)]
     have h4 : ¬ x%0x10000000000000000=y%0x10000000000000000:=by omega
     have h5 : ¬ x%0x10000000000000000<y%0x10000000000000000:=by omega
     simp [rE.c,lb,h1,h4,h5,e]
   ·have e:bI x y=1:=by unfold bI;rw [if_neg (by omega),if_neg (by omega)]
    have h2 : ¬ x/0x10000000000000000=y/0x10000000000000000:=by omega
    have h3 : ¬ x/0x10000000000000000<y/0x10000000000000000:=by omega
    simp [rE.c,lb,h2,h3,e]
  ·cases h
 ·cases h
end Go.Proofs.YtfcbohachbeamaaGreatDoor.E
namespace Go.Proofs.YtfcbohachbeamaaGreatDoor.E
open Go.VC Go.RowKit
def yH:List AP->Option AV
 | [a,.c (.v (.int .u64 b))]=>match dL a with
  | some x=>if 0<=b/\b<=1 then some (.t [lb (if 0x100000000000000000000000000000000<=2*x then 2*x+b-0x100000000000000000000000000000000 else 2*x+b),bv (decide (0x100000000000000000000000000000000<=2*x))]) else none
  | _=>none
 | _=>none
theorem aFp:Ok Tryz.prog 256 yH:=eE Tryz.func256 Ab.ent Ab.aA aH fun av r h=>by
 unfold yH at h
 split at h
 ·split at h
  ·rename_i a b y x hx
   split at h
   ·rename_i hb
    cases h
    obtain ⟨rfl,hx0,hx1⟩:=lQ hx
    refine ⟨by simp [Ab.c],0,?_⟩
    have e1:cX .or .u64 (x/0x10000000000000000*2%0x10000000000000000) (x%0x10000000000000000/0x8000000000000000)=x/0x10000000000000000*2%0x10000000000000000+x%0x10000000000000000/0x8000000000000000:=
     Ng 1 (by decide) (by omega) (by omega) (by omega) (by omega) (by omega) (by omega)
    have e2:cX .or .u64 (x%0x10000000000000000*2%0x10000000000000000) b=x%0x10000000000000000*2%0x10000000000000000+b:=
     Ng 1 (by decide) (by omega) (by omega) (by omega) (by omega) (by omega) (by omega)
    by_cases hov:0x100000000000000000000000000000000<=2*x
    ·simp [Ab.c,lb,fI,qX,e1,e2,hov]
     omega
    ·simp [Ab.c,lb,fI,qX,e1,e2,hov]
     omega
   ·cases h
  ·cases h
 ·cases h
end Go.Proofs.YtfcbohachbeamaaGreatDoor.E
namespace Go.Proofs.YtfcbohachbeamaaGreatDoor.E
open Go.VC Go.RowKit
theorem Z1 (u a b c:Int) (ha0:2147483648<=a) (ha1:a<4294967296) (hb0:0<=b) (hb1:b<4294967296) (hc0:0<=c) (hc1:c<4294967296) (hu0:0<=u):(u*4294967296+c)/(a*4294967296+b)<=u/a:=by
 have hq0:0<=u/a:=Int.ediv_nonneg hu0 (by omega)
 have h:(u*4294967296+c)/(a*4294967296+b)<u/a+1:=by
  refine Int.ediv_lt_of_lt_mul (by omega) ?_
  have h1:u<(u/a+1)*a:=by
   have h2:=Int.mul_ediv_add_emod u a
   have h3:=Int.emod_lt_of_pos u (show 0<a by omega)
   rw [Int.add_mul,Int.one_mul,Int.mul_comm (u/a) a];omega
  have h4:0<=(u/a+1)*b:=Int.mul_nonneg (by omega) hb0
  rw [Int.mul_add,← Int.mul_assoc];omega
 omega
theorem aKH {sp:VC.Spec} {K:Nat} (s0:St) (u a b c:Int) (ha0:2147483648<=a) (ha1:a<4294967296) (hb0:0<=b) (hb1:b<4294967296) (hc0:0<=c) (hc1:c<4294967296) (hu0:0<=u) (hu:u<a*4294967296+b)
 (h9:s0.tm 9 = .o (iv .u64 a)) (h10:s0.tm 10 = .o (iv .u64 b)) (hc:s0.tm 13 = .o (iv .u64 c)) (hq:s0.tm 15 = .o (iv .u64 (u/a))) (hr:s0.tm 16 = .o (iv .u64 (u%a))) :
 cO (iter (bQ sp K gD.l1) 3 s0) (fun ax s'=>ax = .e 0/\s'.tm 15 = .o (iv .u64 ((u*4294967296+c)/(a*4294967296+b)))/\(∀ t,t<15->t≠16->s'.tm t=s0.tm t)/\s'.mem=s0.mem):=by
 have hua:u=u/a*a+u%a:=by have:=Int.mul_ediv_add_emod u a;rw [Int.mul_comm] at this;omega
 have hr0:0<=u%a:=Int.emod_nonneg _ (by omega)
 have hr1:u%a<a:=Int.emod_lt_of_pos _ (by omega)
 have hq0:0<=u/a:=Int.ediv_nonneg hu0 (by omega)
 have hq1:u/a<=4294967297:=by
  have h1:u/a<4294967298:=Int.ediv_lt_of_lt_mul (by omega) (by omega)
  omega
 have hQq:(u*4294967296+c)/(a*4294967296+b)<=u/a:=Z1 u a b c ha0 ha1 hb0 hb1 hc0 hc1 hu0
 generalize hQ:(u*4294967296+c)/(a*4294967296+b)=Q at *
 refine Ee (fun m s=> ∃ q r,s.tm 15 = .o (iv .u64 q)/\s.tm 16 = .o (iv .u64 r)/\(∀ t,t<15->t≠16->s.tm t=s0.tm t)/\s.mem=s0.mem/\u=q*a+r/\Q<=q/\0<=q/\q<=4294967295+m/\m<=2/\(2-(m:Int))*a<=r/\r<4294967296)
  (fun m s hI=> ?_) 3 2 s0 (by decide) ⟨u/a,u%a,hq,hr,fun _ _ _=>rfl,rfl,hua,hQq,hq0,by omega,by omega,by omega,by omega⟩
 obtain ⟨q,r,i1,i2,i3,i4,i5,i6,i6',i7,i8,i9,i10⟩:=hI
 have g9:s.tm 9 = .o (iv .u64 a):=by rw [i3 9 (by decide) (by decide)];exact h9
 have g10:s.tm 10 = .o (iv .u64 b):=by rw [i3 10 (by decide) (by decide)];exact h10
 have gc:s.tm 13 = .o (iv .u64 c):=by rw [i3 13 (by decide) (by decide)];exact hc
 have hr0:0<=r:=by
  have:m=0∨m=1∨m=2:=by omega
  rcases this with rfl | rfl | rfl<;>simp at i9<;>omega
 have hm0:m≠0:=by intro h;subst h;simp at i9;omega
 have hqb0:0<=q*b:=Int.mul_nonneg i6' hb0
 have hqb1:q*b<=4294967297*4294967295:=Int.mul_le_mul (by omega) (by omega) hb0 (by decide)
 have w1:q*b%0x10000000000000000=q*b:=by omega
 have w2:4294967296*r%0x10000000000000000=4294967296*r:=by omega
 have w3:(4294967296*r+c)%0x10000000000000000=4294967296*r+c:=by omega
 have w4:(r+a)%0x10000000000000000=r+a:=by omega
 have hstop:q<4294967296 -> ¬ 4294967296*r+c<q*b->q=Q:=fun h1 h2=>by
  have h3:q*(a*4294967296+b)<=u*4294967296+c:=by
   rw [Int.mul_add,← Int.mul_assoc,i5];omega
  have h4:q<=Q:=by rw [← hQ];exact Int.le_ediv_of_mul_le (by omega) h3
  omega
 have hgo:4294967296<=q∨4294967296*r+c<q*b->Q<=q-1:=fun h=>by
  have:Q<q:=by
   rcases h with h | h
   ·have:Q<4294967296:=by rw [← hQ];exact Int.ediv_lt_of_lt_mul (by omega) (by omega)
    omega
   ·rw [← hQ]
    refine Int.ediv_lt_of_lt_mul (by omega) ?_
    rw [Int.mul_add,← Int.mul_assoc,i5];omega
  omega
 have hq1':(4294967296<=q∨4294967296*r+c<q*b)->1<=q:=fun h=>by
  rcases h with h | h
  ·omega
  ·rcases (show q<1∨1<=q by omega) with h1 | h1
   ·have:q=0:=by omega
    subst this;simp at h;omega
   ·exact h1
 have hbreak:Q<=q-1->4294967296<=r+a->q-1=Q:=fun h1 h2=>by
  have hb2:(q-1)*b<=4294967296*4294967295:=Int.mul_le_mul (by omega) (by omega) hb0 (by decide)
  have e1:(q-1)*a=q*a-a:=by rw [Int.sub_mul,Int.one_mul]
  have h3:(q-1)*(a*4294967296+b)<=u*4294967296+c:=by
   rw [Int.mul_add,← Int.mul_assoc,e1,i5];omega
  have h4:q-1<=Q:=by rw [← hQ];exact Int.le_ediv_of_mul_le (by omega) h3
  omega
 have hnext:Q<=q-1 -> ¬ 4294967296<=r+a -> ∃ m',m'<m/\(u=(q-1)*a+(r+a)/\Q<=q-1/\0<=q-1/\q-1<=4294967295+m'/\m'<=2/\(2-(m':Int))*a<=r+a/\r+a<4294967296):=fun h1 h2=>by
  have hQ0:0<=Q:=by rw [← hQ];exact Int.ediv_nonneg (by omega) (by omega)
  refine ⟨m-1,by omega,?_,h1,by omega,by omega,by omega,?_,by omega⟩
  ·rw [Int.sub_mul,Int.one_mul];omega
  ·have e:(2-((m-1:Nat):Int))*a=(2-(m:Int))*a+a:=by
    have:((m-1:Nat):Int)=(m:Int)-1:=by omega
    rw [this];grind
   omega
 have fr : ∀ {X:AV} {t:Nat},t<15->t≠16->X=s.tm t->X=s0.tm t:=fun h1 h2 h3=>h3.trans (i3 _ h1 h2)
 by_cases c1:4294967296<=q
 ·have w5:(q-1)%0x10000000000000000=q-1:=by omega
  by_cases c3:4294967296<=r+a
  ·simp [gD.l1,i1,i2,g9,g10,gc,c1,fI,w1,w2,w3,w4,w5,c3]
   refine ⟨hbreak (hgo (.inl c1)) c3,fun t ht n2=>fr ht n2 ?_,i4⟩
   repeat rw [if_neg (by omega)]
  ·simp [gD.l1,i1,i2,g9,g10,gc,c1,fI,w1,w2,w3,w4,w5,c3]
   obtain ⟨m',q1,q2,q3,q4,q5,q6,q7,q8⟩:=hnext (hgo (.inl c1)) c3
   refine ⟨m',q1,fun t ht n2=>fr ht n2 ?_,i4,q2,by omega,by omega,by omega,q6,q7,by omega⟩
   repeat rw [if_neg (by omega)]
 ·by_cases c2:4294967296*r+c<q*b
  ·have w5:(q-1)%0x10000000000000000=q-1:=by have:=hq1' (.inr c2);omega
   by_cases c3:4294967296<=r+a
   ·simp [gD.l1,i1,i2,g9,g10,gc,c1,c2,fI,w1,w2,w3,w4,w5,c3]
    refine ⟨hbreak (hgo (.inr c2)) c3,fun t ht n2=>fr ht n2 ?_,i4⟩
    repeat rw [if_neg (by omega)]
   ·simp [gD.l1,i1,i2,g9,g10,gc,c1,c2,fI,w1,w2,w3,w4,w5,c3]
    obtain ⟨m',q1,q2,q3,q4,q5,q6,q7,q8⟩:=hnext (hgo (.inr c2)) c3
    refine ⟨m',q1,fun t ht n2=>fr ht n2 ?_,i4,q2,by omega,by omega,by omega,q6,q7,by omega⟩
    repeat rw [if_neg (by omega)]
  ·simp [gD.l1,i1,i2,g9,g10,gc,c1,c2,fI,w1,w2,w3]
   refine ⟨hstop (by omega) c2,fun t ht n2=>fr ht n2 ?_,i4⟩
   repeat rw [if_neg (by omega)]
theorem aEJ {sp:VC.Spec} {K:Nat} (s0:St) (u a b c:Int) (ha0:2147483648<=a) (ha1:a<4294967296) (hb0:0<=b) (hb1:b<4294967296) (hc0:0<=c) (hc1:c<4294967296) (hu0:0<=u) (hu:u<a*4294967296+b)
 (h9:s0.tm 9 = .o (iv .u64 a)) (h10:s0.tm 10 = .o (iv .u64 b)) (hc:s0.tm 14 = .o (iv .u64 c)) (hq:s0.tm 18 = .o (iv .u64 (u/a))) (hr:s0.tm 16 = .o (iv .u64 (u%a))) :
 cO (iter (bQ sp K gD.l2) 3 s0) (fun ax s'=>ax = .e 2/\s'.tm 18 = .o (iv .u64 ((u*4294967296+c)/(a*4294967296+b)))/\(∀ t,t<18->t≠16->s'.tm t=s0.tm t)/\s'.mem=s0.mem):=by
 have hua:u=u/a*a+u%a:=by have:=Int.mul_ediv_add_emod u a;rw [Int.mul_comm] at this;omega
 have hr0:0<=u%a:=Int.emod_nonneg _ (by omega)
 have hr1:u%a<a:=Int.emod_lt_of_pos _ (by omega)
 have hq0:0<=u/a:=Int.ediv_nonneg hu0 (by omega)
 have hq1:u/a<=4294967297:=by
  have h1:u/a<4294967298:=Int.ediv_lt_of_lt_mul (by omega) (by omega)
  omega
 have hQq:(u*4294967296+c)/(a*4294967296+b)<=u/a:=Z1 u a b c ha0 ha1 hb0 hb1 hc0 hc1 hu0
 generalize hQ:(u*4294967296+c)/(a*4294967296+b)=Q at *
 refine Ee (fun m s=> ∃ q r,s.tm 18 = .o (iv .u64 q)/\s.tm 16 = .o (iv .u64 r)/\(∀ t,t<18->t≠16->s.tm t=s0.tm t)/\s.mem=s0.mem/\u=q*a+r/\Q<=q/\0<=q/\q<=4294967295+m/\m<=2/\(2-(m:Int))*a<=r/\r<4294967296)
  (fun m s hI=> ?_) 3 2 s0 (by decide) ⟨u/a,u%a,hq,hr,fun _ _ _=>rfl,rfl,hua,hQq,hq0,by omega,by omega,by omega,by omega⟩
 obtain ⟨q,r,i1,i2,i3,i4,i5,i6,i6',i7,i8,i9,i10⟩:=hI
 have g9:s.tm 9 = .o (iv .u64 a):=by rw [i3 9 (by decide) (by decide)];exact h9
 have g10:s.tm 10 = .o (iv .u64 b):=by rw [i3 10 (by decide) (by decide)];exact h10
 have gc:s.tm 14 = .o (iv .u64 c):=by rw [i3 14 (by decide) (by decide)];exact hc
 have hr0:0<=r:=by
  have:m=0∨m=1∨m=2:=by omega
  rcases this with rfl | rfl | rfl<;>simp at i9<;>omega
 have hm0:m≠0:=by intro h;subst h;simp at i9;omega
 have hqb0:0<=q*b:=Int.mul_nonneg i6' hb0
 have hqb1:q*b<=4294967297*4294967295:=Int.mul_le_mul (by omega) (by omega) hb0 (by decide)
 have w1:q*b%0x10000000000000000=q*b:=by omega
 have w2:4294967296*r%0x10000000000000000=4294967296*r:=by omega
 have w3:(4294967296*r+c)%0x10000000000000000=4294967296*r+c:=by omega
 have w4:(r+a)%0x10000000000000000=r+a:=by omega
 have hstop:q<4294967296 -> ¬ 4294967296*r+c<q*b->q=Q:=fun h1 h2=>by
  have h3:q*(a*4294967296+b)<=u*4294967296+c:=by
   rw [Int.mul_add,← Int.mul_assoc,i5];omega
  have h4:q<=Q:=by rw [← hQ];exact Int.le_ediv_of_mul_le (by omega) h3
  omega
 have hgo:4294967296<=q∨4294967296*r+c<q*b->Q<=q-1:=fun h=>by
  have:Q<q:=by
   rcases h with h | h
   ·have:Q<4294967296:=by rw [← hQ];exact Int.ediv_lt_of_lt_mul (by omega) (by omega)
    omega
   ·rw [← hQ]
    refine Int.ediv_lt_of_lt_mul (by omega) ?_
    rw [Int.mul_add,← Int.mul_assoc,i5];omega
  omega
 have hq1':(4294967296<=q∨4294967296*r+c<q*b)->1<=q:=fun h=>by
  rcases h with h | h
  ·omega
  ·rcases (show q<1∨1<=q by omega) with h1 | h1
   ·have:q=0:=by omega
    subst this;simp at h;omega
   ·exact h1
 have hbreak:Q<=q-1->4294967296<=r+a->q-1=Q:=fun h1 h2=>by
  have hb2:(q-1)*b<=4294967296*4294967295:=Int.mul_le_mul (by omega) (by omega) hb0 (by decide)
  have e1:(q-1)*a=q*a-a:=by rw [Int.sub_mul,Int.one_mul]
  have h3:(q-1)*(a*4294967296+b)<=u*4294967296+c:=by
   rw [Int.mul_add,← Int.mul_assoc,e1,i5];omega
  have h4:q-1<=Q:=by rw [← hQ];exact Int.le_ediv_of_mul_le (by omega) h3
  omega
 have hnext:Q<=q-1 -> ¬ 4294967296<=r+a -> ∃ m',m'<m/\(u=(q-1)*a+(r+a)/\Q<=q-1/\0<=q-1/\q-1<=4294967295+m'/\m'<=2/\(2-(m':Int))*a<=r+a/\r+a<4294967296):=fun h1 h2=>by
  have hQ0:0<=Q:=by rw [← hQ];exact Int.ediv_nonneg (by omega) (by omega)
  refine ⟨m-1,by omega,?_,h1,by omega,by omega,by omega,?_,by omega⟩
  ·rw [Int.sub_mul,Int.one_mul];omega
  ·have e:(2-((m-1:Nat):Int))*a=(2-(m:Int))*a+a:=by
    have:((m-1:Nat):Int)=(m:Int)-1:=by omega
    rw [this];grind
   omega
 have fr : ∀ {X:AV} {t:Nat},t<18->t≠16->X=s.tm t->X=s0.tm t:=fun h1 h2 h3=>h3.trans (i3 _ h1 h2)
 by_cases c1:4294967296<=q
 ·have w5:(q-1)%0x10000000000000000=q-1:=by omega
  by_cases c3:4294967296<=r+a
  ·simp [gD.l2,i1,i2,g9,g10,gc,c1,fI,w1,w2,w3,w4,w5,c3]
   refine ⟨hbreak (hgo (.inl c1)) c3,fun t ht n2=>fr ht n2 ?_,i4⟩
   repeat rw [if_neg (by omega)]
  ·simp [gD.l2,i1,i2,g9,g10,gc,c1,fI,w1,w2,w3,w4,w5,c3]
   obtain ⟨m',q1,q2,q3,q4,q5,q6,q7,q8⟩:=hnext (hgo (.inl c1)) c3
   refine ⟨m',q1,fun t ht n2=>fr ht n2 ?_,i4,q2,by omega,by omega,by omega,q6,q7,by omega⟩
   repeat rw [if_neg (by omega)]
 ·by_cases c2:4294967296*r+c<q*b
  ·have w5:(q-1)%0x10000000000000000=q-1:=by have:=hq1' (.inr c2);omega
   by_cases c3:4294967296<=r+a
   ·simp [gD.l2,i1,i2,g9,g10,gc,c1,c2,fI,w1,w2,w3,w4,w5,c3]
    refine ⟨hbreak (hgo (.inr c2)) c3,fun t ht n2=>fr ht n2 ?_,i4⟩
    repeat rw [if_neg (by omega)]
   ·simp [gD.l2,i1,i2,g9,g10,gc,c1,c2,fI,w1,w2,w3,w4,w5,c3]
    obtain ⟨m',q1,q2,q3,q4,q5,q6,q7,q8⟩:=hnext (hgo (.inr c2)) c3
    refine ⟨m',q1,fun t ht n2=>fr ht n2 ?_,i4,q2,by omega,by omega,by omega,q6,q7,by omega⟩
    repeat rw [if_neg (by omega)]
  ·simp [gD.l2,i1,i2,g9,g10,gc,c1,c2,fI,w1,w2,w3]
   refine ⟨hstop (by omega) c2,fun t ht n2=>fr ht n2 ?_,i4⟩
   repeat rw [if_neg (by omega)]
end Go.Proofs.YtfcbohachbeamaaGreatDoor.E
namespace Go.Proofs.YtfcbohachbeamaaGreatDoor.E
open Go.VC Go.RowKit
def Sv:List AP->Option AV
 | [.c (.v (.int .u64 hi)),.c (.v (.int .u64 lo)),.c (.v (.int .u64 y))]=>if 0<=hi/\hi<y/\y<0x10000000000000000/\0<=lo/\lo<0x10000000000000000 then
  some (.t [iv .u64 ((hi*0x10000000000000000+lo)/y),iv .u64 ((hi*0x10000000000000000+lo)%y)]) else none
 | _=>none
theorem L5 : ∀ (f x:Nat),x<2 ^ f->x≠0 -> ∃ e,Lib.bitLenAux f x=e+1/\e+1<=f/\2 ^ e<=x/\x<2 ^ (e+1)
 | 0,x,h,h0=>by simp at h;omega
 | f+1,x,h,h0=>by
  rw [Lib.bitLenAux,if_neg h0]
  by_cases h2:x/2=0
  ·refine ⟨0,?_,by omega,by simp;omega,by simp;omega⟩
   rw [h2]
   cases f<;>simp [Lib.bitLenAux]
  ·obtain ⟨e,a,b,c,d⟩:=L5 f (x/2) (by rw [Nat.pow_succ] at h;omega) h2
   exact ⟨e+1,by omega,by omega,by rw [Nat.pow_succ];omega,by rw [Nat.pow_succ];omega⟩
theorem bitLen_spec (y:Int) (h0:0<y) (h1:y<0x10000000000000000) : ∃ s:Nat,s<=63/\(64-(Lib.bitLen y.toNat:Int))=(s:Int)/\0x8000000000000000<=y*2 ^ s/\y*2 ^ s<0x10000000000000000:=by
 obtain ⟨y,rfl⟩:=Int.eq_ofNat_of_zero_le (show 0<=y by omega)
 obtain ⟨e,h2,h3,h4,h5⟩:=L5 64 y (by omega) (by omega)
 have hb:Lib.bitLen y=e+1:=h2
 refine ⟨63-e,by omega,?_,?_,?_⟩
 ·simp only [Int.toNat_natCast];rw [hb];omega
 ·have h:2 ^ e*2 ^ (63-e)<=y*2 ^ (63-e):=Nat.mul_le_mul_right _ h4
  rw [← Nat.pow_add,show e+(63-e)=63 by omega] at h
  have e1:(2:Nat) ^ 63=0x8000000000000000:=by decide
  rw [e1] at h
  have e2:((y*2 ^ (63-e):Nat):Int)=(y:Int)*2 ^ (63-e):=by push_cast;rfl
  rw [← e2]
  exact Int.ofNat_le.2 h
 ·have h:y*2 ^ (63-e)<2 ^ (e+1)*2 ^ (63-e):=Nat.mul_lt_mul_of_pos_right h5 (Nat.two_pow_pos _)
  rw [← Nat.pow_add,show e+1+(63-e)=64 by omega] at h
  have e1:(2:Nat) ^ 64=0x10000000000000000:=by decide
  rw [e1] at h
  have e2:((y*2 ^ (63-e):Nat):Int)=(y:Int)*2 ^ (63-e):=by push_cast;rfl
  rw [← e2]
  exact Int.ofNat_lt.2 h
theorem aJ5 (s:Nat) (hs:s<=63):(2 ^ s:Int)*2 ^ (64-s)=0x10000000000000000:=by
 rw [← Int.pow_add]
 rw [show s+(64-s)=64 by omega]
 rfl
theorem aGT:Ok Tryz.prog 274 Sv:=eE Tryz.func274 gD.ent gD.aA (aB aI5 aH) fun av r h=>by
 unfold Sv at h
 split at h
 ·rename_i hi lo y
  split at h
  ·rename_i hh
   cases h
   obtain ⟨h0,h1,h2,h3,h4⟩:=hh
   refine ⟨by simp [gD.c],3,?_⟩
   have y0 : ¬ y=0:=by omega
   have y1 : ¬ y<=hi:=by omega
   have y2:0<=y:=by omega
   by_cases hz:hi=0
   ·subst hz
    have t1:lo.tdiv y=lo/y:=Int.tdiv_eq_ediv_of_nonneg h3
    have t2:lo.tmod y=lo%y:=Int.tmod_eq_emod_of_nonneg h3
    have t3:lo/y%0x10000000000000000=lo/y:=by
     have a1:0<=lo/y:=Int.ediv_nonneg h3 y2
     have a2:lo/y<=lo:=Int.ediv_le_self _ h3
     omega
    simp [gD.c,y0,y1,t1,t2,fI,t3]
   ·obtain ⟨s,hs,hs1,hn1,hn2⟩:=bitLen_spec y (by omega) h2
    have s1:(s:Int)%0x10000000000000000=s:=by omega
    have s2 : ¬ ((s:Int)<0):=by omega
    have s3:min s 64=s:=by omega
    have s4:(64-(s:Int))%0x10000000000000000=64-s:=by omega
    have s5 : ¬ (64-(s:Int)<0):=by omega
    have s6:(64-(s:Int)).toNat=64-s:=by omega
    have s7:min (64-s) 64=64-s:=by omega
    have hS:=aJ5 s hs
    generalize hSd:(2 ^ s:Int)=S at *
    generalize hTd:(2 ^ (64-s):Int)=T at *
    have hS0:0<S:=by rw [← hSd];exact Int.pow_pos (by decide)
    have hT0:0<T:=by rw [← hTd];exact Int.pow_pos (by decide)
    have yS:y*S%0x10000000000000000=y*S:=by omega
    have hiS0:0<=hi*S:=Int.mul_nonneg h0 (by omega)
    have hiS1:hi*S<y*S:=Int.mul_lt_mul_of_pos_right h1 hS0
    have hiS:hi*S%0x10000000000000000=hi*S:=by omega
    have loT0:0<=lo/T:=Int.ediv_nonneg h3 (by omega)
    have loT1:lo/T<S:=Int.ediv_lt_of_lt_mul hT0 (by omega)
    have hSW:S<=0x10000000000000000:=by
     have:=Int.mul_le_mul_of_nonneg_left (show 1<=T by omega) (show 0<=S by omega);omega
    have hor:cX .or .u64 (hi*S) (lo/T)=hi*S+lo/T:=
     Ng s (by omega) hiS0 (by omega) (by rw [hSd];exact Int.mul_emod_left _ _) loT0 (by rw [hSd];exact loT1) (by omega)
    have hand1:cX .and .u64 (y*S) 4294967295=y*S%4294967296:=Ki 32 (by omega) (by omega) (by decide) (by decide)
    have hand2:cX .and .u64 (lo*S%0x10000000000000000) 4294967295=lo*S%0x10000000000000000%4294967296:=Ki 32 (by omega) (by omega) (by decide) (by decide)
    have hfd:lo.fdiv T=lo/T:=qX (by omega)
    have hor:cX .or .u64 (hi*S) (lo.fdiv T)=hi*S+lo/T:=by rw [hfd];exact hor
    have hu0:0<=hi*S+lo/T:=by omega
    have hu1:hi*S+lo/T<y*S:=by
     have:hi*S+S<=y*S:=by
      have:=Int.mul_le_mul_of_nonneg_right (show hi+1<=y by omega) (show 0<=S by omega)
      rw [Int.add_mul,Int.one_mul] at this;exact this
     omega
    generalize hud:hi*S+lo/T=u at *
    generalize hYd:y*S=Y at *
    have ha0 : ¬ Y/4294967296=0:=by omega
    have ha1:0<=Y/4294967296:=by omega
    have hq:u.tdiv (Y/4294967296)=u/(Y/4294967296):=Int.tdiv_eq_ediv_of_nonneg hu0
    have hqq0:0<=u/(Y/4294967296):=Int.ediv_nonneg hu0 ha1
    have hqq1:u/(Y/4294967296)<=u:=Int.ediv_le_self _ hu0
    have hqw:u/(Y/4294967296)%0x10000000000000000=u/(Y/4294967296):=by omega
    have hqm:u/(Y/4294967296)*(Y/4294967296)+u%(Y/4294967296)=u:=by have:=Int.mul_ediv_add_emod u (Y/4294967296);rw [Int.mul_comm] at this;omega
    have hrm0:0<=u%(Y/4294967296):=Int.emod_nonneg _ (by omega)
    have hrm1:u%(Y/4294967296)<Y/4294967296:=Int.emod_lt_of_pos _ (by omega)
    have hqm0:0<=u/(Y/4294967296)*(Y/4294967296):=Int.mul_nonneg hqq0 ha1
    have hw1:u/(Y/4294967296)*(Y/4294967296)%0x10000000000000000=u/(Y/4294967296)*(Y/4294967296):=by omega
    have hw2:(u-u/(Y/4294967296)*(Y/4294967296))%0x10000000000000000=u%(Y/4294967296):=by omega
    simp [gD.c,y0,y1,hz,Us,y2,h2,hs1,fI,qX,s1,s2,s3,s4,s5,s6,s7,hSd,hTd,hYd,yS,hiS,hor,hand1,hand2,ha0,hq,hqw,hw1,hw2]
    have hYn:Y/4294967296*4294967296+Y%4294967296=Y:=by omega
    generalize hzd:lo*S%0x10000000000000000=z at *
    have hz0:0<=z:=by omega
    have hz1:z<0x10000000000000000:=by omega
    refine cO.mono (aKH _ u (Y/4294967296) (Y%4294967296) (z/4294967296) (by omega) (by omega) (by omega) (by omega) (by omega) (by omega) hu0 (by omega) (by simp) (by simp) (by simp) (by simp) (by simp)) ?_
    rintro ax s' ⟨rfl,q1,fr,hm⟩
    rw [hYn] at q1
    have f2:s'.tm 2 = .o (iv .u64 Y):=by rw [fr 2 (by decide) (by decide)];simp
    have f8:s'.tm 8 = .o (iv .u64 s):=by rw [fr 8 (by decide) (by decide)];simp
    have f9:s'.tm 9 = .o (iv .u64 (Y/4294967296)):=by rw [fr 9 (by decide) (by decide)];simp
    have f10:s'.tm 10 = .o (iv .u64 (Y%4294967296)):=by rw [fr 10 (by decide) (by decide)];simp
    have f11:s'.tm 11 = .o (iv .u64 u):=by rw [fr 11 (by decide) (by decide)];simp
    have f13:s'.tm 13 = .o (iv .u64 (z/4294967296)):=by rw [fr 13 (by decide) (by decide)];simp
    have f14:s'.tm 14 = .o (iv .u64 (z%4294967296)):=by rw [fr 14 (by decide) (by decide)];simp;omega
    clear fr hm
    have hV0:0<=u*4294967296+z/4294967296:=by omega
    have hVm:=Int.mul_ediv_add_emod (u*4294967296+z/4294967296) Y
    have hV2:0<=(u*4294967296+z/4294967296)%Y:=Int.emod_nonneg _ (by omega)
    have hV3:(u*4294967296+z/4294967296)%Y<Y:=Int.emod_lt_of_pos _ (by omega)
    have hQ0:0<=(u*4294967296+z/4294967296)/Y:=Int.ediv_nonneg hV0 (by omega)
    have hQ1:(u*4294967296+z/4294967296)/Y<4294967296:=Int.ediv_lt_of_lt_mul (by omega) (by omega)
    generalize hQd:(u*4294967296+z/4294967296)/Y=q at *
    generalize hvd:(u*4294967296+z/4294967296)%Y=v at *
    rw [Int.mul_comm Y q] at hVm
    have hun:((u*4294967296+z/4294967296)%0x10000000000000000-q*Y%0x10000000000000000)%0x10000000000000000=v:=by omega
    have hun':(u*4294967296+z/4294967296-q*Y)%0x10000000000000000=v:=by omega
    have hv0:0<=v/(Y/4294967296):=Int.ediv_nonneg hV2 ha1
    have hv1:v/(Y/4294967296)<=v:=Int.ediv_le_self _ hV2
    have hvq:v.tdiv (Y/4294967296)=v/(Y/4294967296):=Int.tdiv_eq_ediv_of_nonneg hV2
    have hvw:v/(Y/4294967296)%0x10000000000000000=v/(Y/4294967296):=by omega
    have hvm:v/(Y/4294967296)*(Y/4294967296)+v%(Y/4294967296)=v:=by have:=Int.mul_ediv_add_emod v (Y/4294967296);rw [Int.mul_comm] at this;omega
    have hvr0:0<=v%(Y/4294967296):=Int.emod_nonneg _ (by omega)
    have hvr1:v%(Y/4294967296)<Y/4294967296:=Int.emod_lt_of_pos _ (by omega)
    have hvn0:0<=v/(Y/4294967296)*(Y/4294967296):=Int.mul_nonneg hv0 ha1
    have hvw1:v/(Y/4294967296)*(Y/4294967296)%0x10000000000000000=v/(Y/4294967296)*(Y/4294967296):=by omega
    have hvw2:(v-v/(Y/4294967296)*(Y/4294967296))%0x10000000000000000=v%(Y/4294967296):=by omega
    simp [q1,f2,f8,f9,f10,f11,f13,f14,fI,hun,hun',ha0,hvq,hvw,hvw1,hvw2]
    refine cO.mono (aEJ _ v (Y/4294967296) (Y%4294967296) (z%4294967296) (by omega) (by omega) (by omega) (by omega) (by omega) (by omega) hV2 (by omega) (by simp [f9]) (by simp [f10]) (by simp [f14]) (by simp) (by simp)) ?_
    rintro ax st ⟨rfl,q2,fr,hm⟩
    rw [hYn] at q2
    have e2:st.tm 2 = .o (iv .u64 Y):=by rw [fr 2 (by decide) (by decide)];simp [f2]
    have e8:st.tm 8 = .o (iv .u64 s):=by rw [fr 8 (by decide) (by decide)];simp [f8]
    have e14:st.tm 14 = .o (iv .u64 (z%4294967296)):=by rw [fr 14 (by decide) (by decide)];simp [f14]
    have e15:st.tm 15 = .o (iv .u64 q):=by rw [fr 15 (by decide) (by decide)];simp [q1]
    have e17:st.tm 17 = .o (iv .u64 v):=by rw [fr 17 (by decide) (by decide)];simp
    clear fr hm
    have hWm:=Int.mul_ediv_add_emod (v*4294967296+z%4294967296) Y
    have hW2:0<=(v*4294967296+z%4294967296)%Y:=Int.emod_nonneg _ (by omega)
    have hW3:(v*4294967296+z%4294967296)%Y<Y:=Int.emod_lt_of_pos _ (by omega)
    have hP0:0<=(v*4294967296+z%4294967296)/Y:=Int.ediv_nonneg (by omega) (by omega)
    have hP1:(v*4294967296+z%4294967296)/Y<4294967296:=Int.ediv_lt_of_lt_mul (by omega) (by omega)
    generalize hPd:(v*4294967296+z%4294967296)/Y=p at *
    generalize htd:(v*4294967296+z%4294967296)%Y=t at *
    rw [Int.mul_comm Y p] at hWm
    have hrem:((v*4294967296+z%4294967296)%0x10000000000000000-p*Y%0x10000000000000000)%0x10000000000000000=t:=by omega
    have hrem':(v*4294967296+z%4294967296-p*Y)%0x10000000000000000=t:=by omega
    have hqp:(q*4294967296+p)%0x10000000000000000=q*4294967296+p:=by omega
    have htS:t.fdiv S=t/S:=qX (by omega)
    simp [q2,e2,e8,e14,e15,e17,fI,hrem,hrem',hqp,s2,s3,hSd,htS]
    have hn:(hi*0x10000000000000000+lo)*S=(q*4294967296+p)*Y+t:=by
     have h1:lo*S=lo/T*0x10000000000000000+z:=by
      have h2:=Int.mul_ediv_add_emod lo T
      have h3:=Int.mul_ediv_add_emod (lo*S) 0x10000000000000000
      have h4:lo*S/0x10000000000000000=lo/T:=by
       rw [← hS,Int.mul_comm lo S]
       exact Int.mul_ediv_mul_of_pos _ _ hS0
      omega
     have h2:(hi*0x10000000000000000+lo)*S=hi*S*0x10000000000000000+lo*S:=by grind
     have h3:(q*4294967296+p)*Y=q*Y*4294967296+p*Y:=by grind
     rw [h2,h3,h1]
     omega
    have ht0:0<=t/S:=Int.ediv_nonneg hW2 (by omega)
    have hmm:(hi*0x10000000000000000+lo)*S%Y=t/\(hi*0x10000000000000000+lo)*S/Y=q*4294967296+p:=by
     rw [hn]
     constructor
     ·rw [Int.add_comm,Int.add_mul_emod_self_right];exact Int.emod_eq_of_lt hW2 hW3
     ·rw [Int.add_comm,Int.add_mul_ediv_right _ _ (by omega),Int.ediv_eq_zero_of_lt hW2 hW3,Int.zero_add]
    rw [← hYd,Int.mul_comm _ S,Int.mul_comm y S] at hmm
    rw [Int.mul_emod_mul_of_pos _ _ hS0,Int.mul_ediv_mul_of_pos _ _ hS0] at hmm
    obtain ⟨m1,m2⟩:=hmm
    have m3:t/S=(hi*0x10000000000000000+lo)%y:=by rw [← m1];exact Int.mul_ediv_cancel_left _ (by omega)
    rw [m2,← m3]
    exact ⟨rfl,rfl⟩
  ·cases h
 ·cases h
end Go.Proofs.YtfcbohachbeamaaGreatDoor.E
namespace Go.Proofs.YtfcbohachbeamaaGreatDoor.E
open Go.VC Go.RowKit
def Oe:List AP->Option AV
 | [a,b,.c (.v (.int .u64 d))]=>match dL a,dL b with
  | some h,some l=>if h<d/\d<0x10000000000000000 then some (.t [lb ((h*0x100000000000000000000000000000000+l)/d),lb ((h*0x100000000000000000000000000000000+l)%d)]) else none
  | _,_=>none
 | _=>none
theorem aGB:Ok Tryz.prog 255 Oe:=eE Tryz.func255 Ew.ent Ew.aA (aB aGT aH) fun av r h=>by
 unfold Oe at h
 split at h
 ·split at h
  ·rename_i a b d x1 x2 h0 l hx hy
   split at h
   ·rename_i hd
    cases h
    obtain ⟨rfl,hx0,hx1⟩:=lQ hx
    obtain ⟨rfl,hy0,hy1⟩:=lQ hy
    obtain ⟨hd0,hd1⟩:=hd
    refine ⟨by simp [Ew.c],0,?_⟩
    have e1:h0%0x10000000000000000=h0:=by omega
    have l0:0<=l/0x10000000000000000:=by omega
    have l1:l/0x10000000000000000<0x10000000000000000:=by omega
    have m0:0<=(h0*0x10000000000000000+l/0x10000000000000000)%d:=Int.emod_nonneg _ (by omega)
    have m1:(h0*0x10000000000000000+l/0x10000000000000000)%d<d:=Int.emod_lt_of_pos _ (by omega)
    have m2:=Int.mul_ediv_add_emod (h0*0x10000000000000000+l/0x10000000000000000) d
    have q0:0<=(h0*0x10000000000000000+l/0x10000000000000000)/d:=Int.ediv_nonneg (by omega) (by omega)
    have q1:(h0*0x10000000000000000+l/0x10000000000000000)/d<0x10000000000000000:=Int.ediv_lt_of_lt_mul (by omega) (by omega)
    simp [Ew.c,lb,Sv,e1,Ek,Jp,hx0,hd0,hd1,l0,l1,m0,m1]
    generalize hqd:(h0*0x10000000000000000+l/0x10000000000000000)/d=q at *
    generalize hrd:(h0*0x10000000000000000+l/0x10000000000000000)%d=r at *
    have n2:=Int.mul_ediv_add_emod (r*0x10000000000000000+l%0x10000000000000000) d
    have n0:0<=(r*0x10000000000000000+l%0x10000000000000000)%d:=Int.emod_nonneg _ (by omega)
    have n1:(r*0x10000000000000000+l%0x10000000000000000)%d<d:=Int.emod_lt_of_pos _ (by omega)
    have p0:0<=(r*0x10000000000000000+l%0x10000000000000000)/d:=Int.ediv_nonneg (by omega) (by omega)
    have p1:(r*0x10000000000000000+l%0x10000000000000000)/d<0x10000000000000000:=Int.ediv_lt_of_lt_mul (by omega) (by omega)
    generalize hpd:(r*0x10000000000000000+l%0x10000000000000000)/d=p at *
    generalize htd:(r*0x10000000000000000+l%0x10000000000000000)%d=t at *
    have hN:h0*0x100000000000000000000000000000000+l=(q*0x10000000000000000+p)*d+t:=by
     have:(q*0x10000000000000000+p)*d=d*q*0x10000000000000000+d*p:=by grind
     rw [this];omega
    have hN1:(h0*0x100000000000000000000000000000000+l)/d=q*0x10000000000000000+p:=by
     rw [hN,Int.add_comm,Int.add_mul_ediv_right _ _ (by omega),Int.ediv_eq_zero_of_lt n0 n1,Int.zero_add]
    have hN2:(h0*0x100000000000000000000000000000000+l)%d=t:=by
     rw [hN,Int.add_comm,Int.add_mul_emod_self_right];exact Int.emod_eq_of_lt n0 n1
    rw [hN1,hN2]
    omega
   ·cases h
  ·cases h
 ·cases h
def fT:List AP->Option AV
 | [a,b,c]=>match dL a,dL b,dL c with
  | some h,some l,some d=>if h<d then some (.t [lb ((h*0x100000000000000000000000000000000+l)/d),lb ((h*0x100000000000000000000000000000000+l)%d),bv true]) else some (.t [lb 0,lb 0,bv false])
  | _,_,_=>none
 | _=>none
abbrev A7:List (Nat×(List AP->Option AV)):= [(254,kY),(256,yH),(109,bH),(255,Oe)]
theorem aNn:fA Tryz.prog (gV A7):=aB C0 (aB aFp (aB Jn (aB aGB aH)))
theorem De {x y:Int} : (0<=bI x y)↔y<=x:=by unfold bI;split<;>(try split)<;>omega
abbrev lc (x:Int):List AC:= [.v (.int .u64 (x/0x10000000000000000)),.v (.int .u64 (x%0x10000000000000000))]
def Rm (N d:Int) (i:Nat) (s:St):Prop:=
 s.tm 4 = .o (.c (.p 4 0))/\s.tm 5 = .o (.c (.p 5 0))/\s.tm 6 = .o (.c (.p 6 0))/\s.tm 7 = .o (.c (.p 7 0))/\s.tm 30 = .o (iv .i64 i) /\
 ∃ q r lo p:Int,s.mem 4=some (lc lo)/\s.mem 5=some (lc d)/\s.mem 6=some (lc q)/\s.mem 7=some (lc r) /\
  N*p=(q*d+r)*0x100000000000000000000000000000000+lo/\0<=r/\r<d/\0<=q/\q<p/\0<=lo/\lo<0x100000000000000000000000000000000/\p=(2:Int) ^ i
theorem aDh (i:Nat) (h:i<=127):(2:Int) ^ i<=0x80000000000000000000000000000000:=by
 have h1:(2:Nat) ^ i<=2 ^ 127:=Nat.pow_le_pow_right (by decide) h
 have e1:(2:Nat) ^ 127=0x80000000000000000000000000000000:=by decide
 rw [e1] at h1
 have e2:((2 ^ i:Nat):Int)=(2:Int) ^ i:=by push_cast;rfl
 rw [← e2]
 exact Int.ofNat_le.2 h1
theorem aPr (K:Nat) (N d:Int) (hd0:0<=d) (hd1:d<0x100000000000000000000000000000000) (i:Nat) (s:St) (hi:i<128) (hI:Rm N d i s) :
 cO (bQ (gV A7) K iM.l1 s) (fun ax s'=>match ax with | .n=>Rm N d (i+1) s' | ax=>False):=by
 obtain ⟨t4,t5,t6,t7,t30,q,r,lo,p,m4,m5,m6,m7,e,r0,r1,q0,q1,l0,l1,hp⟩:=hI
 have dd:=aX hd0 hd1
 have dr:=aX r0 (show r<0x100000000000000000000000000000000 by omega)
 have dlo:=aX l0 l1
 have hple:=aDh i (by omega)
 rw [← hp] at hple
 have dq:=aX q0 (show q<0x100000000000000000000000000000000 by omega)
 have hi1:(i:Int)<128:=by omega
 have wi:IntKind.i64.wrap ((i:Int)+1)=(i:Int)+1:=aD (by omega) (by omega)
 have fl:(lo/0x10000000000000000).fdiv 0x8000000000000000=lo/0x10000000000000000/0x8000000000000000:=qX (by decide)
 have hqov : ¬ 0x100000000000000000000000000000000<=2*q:=by omega
 have dq2:=aX (show 0<=2*q by omega) (show 2*q<0x100000000000000000000000000000000 by omega)
 have hor:cX .or .u64 (2*q%0x10000000000000000) 1=2*q%0x10000000000000000+1:=Ng 1 (by decide) (by omega) (by omega) (by omega) (by omega) (by decide) (by omega)
 by_cases cb:0x100000000000000000000000000000000<=2*lo
 ·have fb:lo/0x10000000000000000/0x8000000000000000=1:=by omega
  have dlo2:=aX (show 0<=2*lo-0x100000000000000000000000000000000 by omega) (show 2*lo-0x100000000000000000000000000000000<0x100000000000000000000000000000000 by omega)
  by_cases c1:0x100000000000000000000000000000000<=2*r
  ·have c2:2*r+1-0x100000000000000000000000000000000<d:=by omega
   have d2:=aX (show 0<=2*r+1-0x100000000000000000000000000000000 by omega) (show 2*r+1-0x100000000000000000000000000000000<0x100000000000000000000000000000000 by omega)
   simp [iM.l1,t4,t5,t6,t7,t30,m4,m5,m6,m7,hi1,wi,lb,yH,kY,bH,dd,dr,dlo,dq,dlo2,dq2,d2,fl,fb,cb,c1,c2,hqov,hor]
   refine ⟨by simp [t4],by simp [t5],by simp [t6],by simp [t7],by simp,2*q+1,2*r+1-d,2*lo-0x100000000000000000000000000000000,2*p,by simp,by simp [m5],?_,?_,?_,by omega,by omega,by omega,by omega,by omega,by omega,?_⟩
   ·simp;omega
   ·simp;omega
   ·have:(2*q+1)*d=2*(q*d)+d:=by grind
    have h2:N*(2*p)=2*(N*p):=by grind
    rw [this,h2,e];omega
   ·rw [hp,Int.pow_succ];omega
  ·by_cases c3:d<=2*r+1
   ·have c2:0<=bI (2*r+1) d:=by rw [De];omega
    have c4 : ¬ 2*r+1<d:=by omega
    have d2:=aX (show 0<=2*r+1 by omega) (show 2*r+1<0x100000000000000000000000000000000 by omega)
    simp [iM.l1,t4,t5,t6,t7,t30,m4,m5,m6,m7,hi1,wi,lb,yH,kY,bH,dd,dr,dlo,dq,dlo2,dq2,d2,fl,fb,cb,c1,c2,c4,hqov,hor]
    refine ⟨by simp [t4],by simp [t5],by simp [t6],by simp [t7],by simp,2*q+1,2*r+1-d,2*lo-0x100000000000000000000000000000000,2*p,by simp,by simp [m5],?_,?_,?_,by omega,by omega,by omega,by omega,by omega,by omega,?_⟩
    ·simp;omega
    ·simp
    ·have:(2*q+1)*d=2*(q*d)+d:=by grind
     have h2:N*(2*p)=2*(N*p):=by grind
     rw [this,h2,e];omega
    ·rw [hp,Int.pow_succ];omega
   ·have c2 : ¬ 0<=bI (2*r+1) d:=by rw [De];omega
    have d2:=aX (show 0<=2*r+1 by omega) (show 2*r+1<0x100000000000000000000000000000000 by omega)
    simp [iM.l1,t4,t5,t6,t7,t30,m4,m5,m6,m7,hi1,wi,lb,yH,kY,bH,dd,dr,dlo,dq,dlo2,dq2,d2,fl,fb,cb,c1,c2,hqov,hor]
    refine ⟨by simp [t4],by simp [t5],by simp [t6],by simp [t7],by simp,2*q,2*r+1,2*lo-0x100000000000000000000000000000000,2*p,by simp,by simp [m5],by simp,by simp,?_,by omega,by omega,by omega,by omega,by omega,by omega,?_⟩
    ·have:(2*q)*d=2*(q*d):=by grind
     have h2:N*(2*p)=2*(N*p):=by grind
     rw [this,h2,e];omega
    ·rw [hp,Int.pow_succ];omega
 ·have fb:lo/0x10000000000000000/0x8000000000000000=0:=by omega
  have dlo2:=aX (show 0<=2*lo by omega) (show 2*lo<0x100000000000000000000000000000000 by omega)
  by_cases c1:0x100000000000000000000000000000000<=2*r
  ·have c2:2*r-0x100000000000000000000000000000000<d:=by omega
   have d2:=aX (show 0<=2*r-0x100000000000000000000000000000000 by omega) (show 2*r-0x100000000000000000000000000000000<0x100000000000000000000000000000000 by omega)
   simp [iM.l1,t4,t5,t6,t7,t30,m4,m5,m6,m7,hi1,wi,lb,yH,kY,bH,dd,dr,dlo,dq,dlo2,dq2,d2,fl,fb,cb,c1,c2,hqov,hor]
   refine ⟨by simp [t4],by simp [t5],by simp [t6],by simp [t7],by simp,2*q+1,2*r-d,2*lo,2*p,by simp,by simp [m5],?_,?_,?_,by omega,by omega,by omega,by omega,by omega,by omega,?_⟩
   ·simp;omega
   ·simp;omega
   ·have:(2*q+1)*d=2*(q*d)+d:=by grind
    have h2:N*(2*p)=2*(N*p):=by grind
    rw [this,h2,e];omega
   ·rw [hp,Int.pow_succ];omega
  ·by_cases c3:d<=2*r
   ·have c2:0<=bI (2*r) d:=by rw [De];omega
    have c4 : ¬ 2*r<d:=by omega
    have d2:=aX (show 0<=2*r by omega) (show 2*r<0x100000000000000000000000000000000 by omega)
    simp [iM.l1,t4,t5,t6,t7,t30,m4,m5,m6,m7,hi1,wi,lb,yH,kY,bH,dd,dr,dlo,dq,dlo2,dq2,d2,fl,fb,cb,c1,c2,c4,hqov,hor]
    refine ⟨by simp [t4],by simp [t5],by simp [t6],by simp [t7],by simp,2*q+1,2*r-d,2*lo,2*p,by simp,by simp [m5],?_,?_,?_,by omega,by omega,by omega,by omega,by omega,by omega,?_⟩
    ·simp;omega
    ·simp
    ·have:(2*q+1)*d=2*(q*d)+d:=by grind
     have h2:N*(2*p)=2*(N*p):=by grind
     rw [this,h2,e];omega
    ·rw [hp,Int.pow_succ];omega
   ·have c2 : ¬ 0<=bI (2*r) d:=by rw [De];omega
    have d2:=aX (show 0<=2*r by omega) (show 2*r<0x100000000000000000000000000000000 by omega)
    simp [iM.l1,t4,t5,t6,t7,t30,m4,m5,m6,m7,hi1,wi,lb,yH,kY,bH,dd,dr,dlo,dq,dlo2,dq2,d2,fl,fb,cb,c1,c2,hqov,hor]
    refine ⟨by simp [t4],by simp [t5],by simp [t6],by simp [t7],by simp,2*q,2*r,2*lo,2*p,by simp,by simp [m5],by simp,by simp,?_,by omega,by omega,by omega,by omega,by omega,by omega,?_⟩
    ·have:(2*q)*d=2*(q*d):=by grind
     have h2:N*(2*p)=2*(N*p):=by grind
     rw [this,h2,e];omega
    ·rw [hp,Int.pow_succ];omega
theorem aBN:Ok Tryz.prog 210 fT:=eE Tryz.func210 iM.ent iM.aA aNn fun av r h=>by
 unfold fT at h
 split at h
 ·split at h
  ·rename_i a b c x1 x2 x3 h0 l d hx hy hz
   obtain ⟨rfl,hx0,hx1⟩:=lQ hx
   obtain ⟨rfl,hy0,hy1⟩:=lQ hy
   obtain ⟨rfl,hz0,hz1⟩:=lQ hz
   have dx:=aX hx0 hx1
   have dy:=aX hy0 hy1
   have dz:=aX hz0 hz1
   split at h
   ·rename_i hd
    cases h
    refine ⟨by simp [iM.c],129,?_⟩
    have hc : ¬ 0<=bI h0 d:=by rw [De];omega
    by_cases hd0:d/0x10000000000000000=0
    ·have hdm:d%0x10000000000000000=d:=by omega
     have hdw:d<0x10000000000000000:=by omega
     have dz0:=dz
     rw [hd0,hdm] at dz0
     simp [iM.c,lb,kY,Oe,dx,dy,dz0,hc,hd0,hdm,hd,hdw]
    ·simp [iM.c,lb,kY,dx,dy,dz,hc,hd0]
     refine Ly (Rm (h0*0x100000000000000000000000000000000+l) d) 128 (fun i s hi hI=>(aPr _ _ _ hz0 hz1 i s hi hI).mono (fun ax s' hh=> ?_)) (fun s hI=> ?_) 129 0 _ (by decide) (by decide) ⟨by simp,by simp,by simp,by simp,by simp,0,h0,l,1,by simp,by simp,by simp,by simp,by omega,hx0,hd,by decide,by decide,hy0,hy1,by decide⟩
     ·cases ax with
      | n=>exact hh
      | e _=>exact hh.elim
      | r=>exact hh.elim
     ·obtain ⟨t4,t5,t6,t7,t30,q,r,lo,p,m4,m5,m6,m7,e,r0,r1,q0,q1,l0,l1,hp⟩:=hI
      have hp2:p=0x100000000000000000000000000000000:=hp
      subst hp2
      have e2:h0*0x100000000000000000000000000000000+l=q*d+r:=by omega
      have hN1:(h0*0x100000000000000000000000000000000+l)/d=q:=by
       rw [e2,Int.add_comm,Int.add_mul_ediv_right _ _ (by omega),Int.ediv_eq_zero_of_lt r0 r1,Int.zero_add]
      have hN2:(h0*0x100000000000000000000000000000000+l)%d=r:=by
       rw [e2,Int.add_comm,Int.add_mul_emod_self_right];exact Int.emod_eq_of_lt r0 r1
      rw [hN1,hN2]
      simp [iM.l1,t4,t5,t6,t7,t30,m4,m5,m6,m7,lb]
   ·cases h
    rename_i hd
    have hc:0<=bI h0 d:=by rw [De];omega
    refine ⟨by simp [iM.c],0,?_⟩
    simp [iM.c,lb,kY,dx,dy,dz,hc]
  ·cases h
 ·cases h
end Go.Proofs.YtfcbohachbeamaaGreatDoor.E
namespace Go.Proofs.YtfcbohachbeamaaGreatDoor.E
open Go.VC Go.RowKit
def eS:List AP->Option AV
 | [.c (.v (.int .i64 n))]=>if -0x8000000000000000<=n/\n<0x8000000000000000 then some (.o (wd n)) else none
 | _=>none
theorem Ml:Ok Tryz.prog 162 eS:=eE Tryz.func162 Dt.ent Dt.aA aH fun av r h=>by
 unfold eS at h
 split at h
 ·split at h
  ·cases h
   refine ⟨by simp [Dt.c],0,?_⟩
   simp [Dt.c,wd,qX,fI]
   omega
  ·cases h
 ·cases h
def Qy:List AP->Option AV
 | [a]=>match dW a with
  | some x=>some (.t [iv .i64 (if -0x8000000000000000<=x/\x<0x8000000000000000 then x else 0),iv .i64 (if -0x8000000000000000<=x/\x<0x8000000000000000 then 0 else 2)])
  | _=>none
 | _=>none
theorem aQh:Ok Tryz.prog 223 Qy:=eE Tryz.func223 zV.ent zV.aA (aB Ml aH) fun av r h=>by
 unfold Qy at h
 split at h
 ·split at h
  ·rename_i a x1 x hx
   cases h
   obtain ⟨rfl,hx0,hx1⟩:=jT hx
   refine ⟨by simp [zV.c],0,?_⟩
   have w0 : -0x8000000000000000<=IntKind.i64.wrap (x%0x10000000000000000)/\IntKind.i64.wrap (x%0x10000000000000000)<0x8000000000000000:=by rw [IntKind.wrap_i64];omega
   have e1:IntKind.i64.wrap (x%0x10000000000000000)%0x10000000000000000=x%0x10000000000000000:=by rw [IntKind.wrap_i64];omega
   by_cases hc : -0x8000000000000000<=x/\x<0x8000000000000000
   ·have e2:IntKind.i64.wrap (x%0x10000000000000000)=x:=by rw [IntKind.wrap_i64];omega
    have e3:x/0x10000000000000000=x/0x10000000000000000:=rfl
    simp [zV.c,wd,eS,w0.1,w0.2,e1,e2,hc]
   ·have e2 : ¬ IntKind.i64.wrap (x%0x10000000000000000)/0x10000000000000000=x/0x10000000000000000:=by rw [IntKind.wrap_i64];omega
    simp [zV.c,wd,eS,w0.1,w0.2,e1,e2,hc]
  ·cases h
 ·cases h
def Mi:List AP->Option AV
 | [a,b]=>match dW a,dW b with
  | some x,some y=>some (.o (iv .i64 (bI x y)))
  | _,_=>none
 | _=>none
theorem X7:Ok Tryz.prog 165 Mi:=eE Tryz.func165 sN.ent sN.aA aH fun av r h=>by
 unfold Mi at h
 split at h
 ·split at h
  ·rename_i x y hx hy
   cases h
   obtain ⟨rfl,hx0,hx1⟩:=jT hx
   obtain ⟨rfl,hy0,hy1⟩:=jT hy
   refine ⟨by simp [sN.c],0,?_⟩
   rcases Int.lt_trichotomy (x/0x10000000000000000) (y/0x10000000000000000) with h1 | h1 | h1
   ·have e:bI x y = -1:=by unfold bI;rw [if_neg (by omega),if_pos (by omega)]
    have h2 : ¬ x/0x10000000000000000=y/0x10000000000000000:=by omega
    simp [sN.c,wd,h1,h2,e]
   ·rcases Int.lt_trichotomy (x%0x10000000000000000) (y%0x10000000000000000) with h3 | h3 | h3
    ·have e:bI x y = -1:=by unfold bI;rw [if_neg (by omega),if_pos (by omega)]
     have h4 : ¬ x%0x10000000000000000=y%0x10000000000000000:=by omega
     simp [sN.c,wd,h1,h3,h4,e]
    ·have e:bI x y=0:=by unfold bI;rw [if_pos (by omega)]
     simp [sN.c,wd,h1,h3,e]
    ·have e:bI x y=1:=by unfold bI;rw [if_neg (by omega),if_neg (by omega)]
     have h4 : ¬ x%0x10000000000000000=y%0x10000000000000000:=by omega
     have h5 : ¬ x%0x10000000000000000<y%0x10000000000000000:=by omega
     simp [sN.c,wd,h1,h4,h5,e]
   ·have e:bI x y=1:=by unfold bI;rw [if_neg (by omega),if_neg (by omega)]
    have h2 : ¬ x/0x10000000000000000=y/0x10000000000000000:=by omega
    have h3 : ¬ x/0x10000000000000000<y/0x10000000000000000:=by omega
    simp [sN.c,wd,h2,h3,e]
  ·cases h
 ·cases h
def aV:List AP->Option AV
 | [a]=>match dW a with
  | some x=>some (.o (lb (if x<0 then x+0x100000000000000000000000000000000 else x)))
  | _=>none
 | _=>none
theorem Ny:Ok Tryz.prog 105 aV:=eE Tryz.func105 zG.ent zG.aA aH fun av r h=>by
 unfold aV at h
 split at h
 ·split at h
  ·rename_i a x1 x hx
   cases h
   obtain ⟨rfl,hx0,hx1⟩:=jT hx
   refine ⟨by simp [zG.c],0,?_⟩
   by_cases hc:x<0<;>(simp [zG.c,wd,lb,fI,hc];omega)
  ·cases h
 ·cases h
def aS:List AP->Option AV
 | [a]=>match dL a with
  | some x=>some (.o (wd (if x<0x80000000000000000000000000000000 then x else x-0x100000000000000000000000000000000)))
  | _=>none
 | _=>none
theorem Po:Ok Tryz.prog 106 aS:=eE Tryz.func106 Bf.ent Bf.aA aH fun av r h=>by
 unfold aS at h
 split at h
 ·split at h
  ·rename_i a x1 x hx
   cases h
   obtain ⟨rfl,hx0,hx1⟩:=lQ hx
   refine ⟨by simp [Bf.c],0,?_⟩
   by_cases hc:x<0x80000000000000000000000000000000<;>(simp [Bf.c,wd,lb,IntKind.wrap_i64,hc];omega)
  ·cases h
 ·cases h
def cU:List AP->Option AV
 | [a]=>match dW a with
  | some x=>some (.o (lb (if x<0 then -x else x)))
  | _=>none
 | _=>none
theorem aAz:Ok Tryz.prog 209 cU:=eE Tryz.func209 zH.ent zH.aA (aB Ny (aB Jn aH)) fun av r h=>by
 unfold cU at h
 split at h
 ·split at h
  ·rename_i a x1 x hx
   cases h
   obtain ⟨rfl,hx0,hx1⟩:=jT hx
   have dx:=lT hx0 hx1
   refine ⟨by simp [zH.c],0,?_⟩
   by_cases hc:x<0
   ·have h1 : ¬ 0<=x/0x10000000000000000:=by omega
    have d0:dL (.g [.v (.int .u64 0),.v (.int .u64 0)])=some 0:=by decide
    have d1:=aX (show 0<=x+0x100000000000000000000000000000000 by omega) (show x+0x100000000000000000000000000000000<0x100000000000000000000000000000000 by omega)
    have h2:0<x+0x100000000000000000000000000000000:=by omega
    have e:0-(x+0x100000000000000000000000000000000)+0x100000000000000000000000000000000 = -x:=by omega
    simp [zH.c,wd,lb,aV,bH,dx,d0,d1,h1,hc,h2,e]
    omega
   ·have h1:0<=x/0x10000000000000000:=by omega
    simp [zH.c,wd,lb,aV,bH,dx,h1,hc]
  ·cases h
 ·cases h
def cY:List AP->Option AV
 | [a,.c (.v (.bool b))]=>match dL a with
  | some n=>if b then (if n<=0x80000000000000000000000000000000 then some (.t [wd (-n),iv .i64 0]) else some (.t [wd 0,iv .i64 2])) else (if n<0x80000000000000000000000000000000 then some (.t [wd n,iv .i64 0]) else some (.t [wd 0,iv .i64 2]))
  | _=>none
 | _=>none
theorem Td {x y:Int} : (bI x y<=0)↔x<=y:=by unfold bI;split<;>(try split)<;>omega
theorem Ei {x y:Int} : (bI x y<0)↔x<y:=by unfold bI;split<;>(try split)<;>omega
theorem aAi {x y:Int} : (0<bI x y)↔y<x:=by unfold bI;split<;>(try split)<;>omega
theorem aSv:Ok Tryz.prog 211 cY:=eE Tryz.func211 sA.ent sA.aA (aB Po (aB Jn (aB C0 aH))) fun av r h=>by
 unfold cY at h
 split at h
 ·split at h
  ·rename_i a b x1 x hx
   obtain ⟨rfl,hx0,hx1⟩:=lQ hx
   have dx:=aX hx0 hx1
   have d0:dL (.g [.v (.int .u64 0),.v (.int .u64 0)])=some 0:=by decide
   have dh:dL (.g [.v (.int .u64 0x8000000000000000),.v (.int .u64 0)])=some 0x80000000000000000000000000000000:=by decide
   refine ⟨by simp [sA.c],0,?_⟩
   cases b with
   | true=>
    simp only [if_true] at h
    by_cases hc:x<=0x80000000000000000000000000000000
    ·rw [if_pos hc] at h
     cases h
     have h1:bI x 0x80000000000000000000000000000000<=0:=Td.2 hc
     by_cases hz:0<x
     ·have d1:=aX (show 0 <= -x+0x100000000000000000000000000000000 by omega) (show -x+0x100000000000000000000000000000000<0x100000000000000000000000000000000 by omega)
      have h2 : ¬ -x+0x100000000000000000000000000000000<0x80000000000000000000000000000000:=by omega
      have e : -x+0x100000000000000000000000000000000-0x100000000000000000000000000000000 = -x:=by omega
      simp [sA.c,wd,lb,aS,bH,kY,dx,d0,dh,h1,hz,d1,h2,e]
     ·have hx:x=0:=by omega
      subst hx
      simp [sA.c,wd,lb,aS,bH,kY,d0,dh,h1]
    ·rw [if_neg hc] at h
     cases h
     have h1 : ¬ bI x 0x80000000000000000000000000000000<=0:=by rw [Td];exact hc
     simp [sA.c,wd,lb,aS,bH,kY,dx,d0,dh,h1]
   | false=>
    simp only [Bool.false_eq_true,if_false] at h
    by_cases hc:x<0x80000000000000000000000000000000
    ·rw [if_pos hc] at h
     cases h
     have h1:bI x 0x80000000000000000000000000000000<0:=Ei.2 hc
     simp [sA.c,wd,lb,aS,bH,kY,dx,d0,dh,h1,hc]
    ·rw [if_neg hc] at h
     cases h
     have h1 : ¬ bI x 0x80000000000000000000000000000000<0:=by rw [Ei];exact hc
     simp [sA.c,wd,lb,aS,bH,kY,dx,d0,dh,h1]
  ·cases h
 ·cases h
end Go.Proofs.YtfcbohachbeamaaGreatDoor.E
namespace Go.Proofs.YtfcbohachbeamaaGreatDoor.E
open Go.VC Go.RowKit
def aL (z:Int):AV:=if -0x80000000000000000000000000000000<=z/\z<0x80000000000000000000000000000000 then .t [wd z,iv .i64 0] else .t [wd 0,iv .i64 2]
theorem wz : ∀ x:Int,(x/0x10000000000000000).fdiv 0x8000000000000000=x/0x10000000000000000/0x8000000000000000:=fun x=>qX (by decide)
def fP:List AP->Option AV
 | [a]=>match dW a with
  | some x=>some (.o (bv (decide (0<x))))
  | _=>none
 | _=>none
theorem dW0:dW (.g [.v (.int .i64 0),.v (.int .u64 0)])=some 0:=by decide
theorem aIx:Ok Tryz.prog 207 fP:=eE Tryz.func207 Bs.ent Bs.aA (aB X7 aH) fun av r h=>by
 unfold fP at h
 split at h
 ·split at h
  ·rename_i a x1 x hx
   cases h
   obtain ⟨rfl,hx0,hx1⟩:=jT hx
   have dx:=lT hx0 hx1
   refine ⟨by simp [Bs.c],0,?_⟩
   simp [Bs.c,wd,Mi,dx,dW0,aAi]
  ·cases h
 ·cases h
def fW:List AP->Option AV
 | [a]=>match dW a with
  | some x=>some (.o (bv (decide (x = -0x80000000000000000000000000000000))))
  | _=>none
 | _=>none
theorem aED:Ok Tryz.prog 212 fW:=eE Tryz.func212 xZ.ent xZ.aA aH fun av r h=>by
 unfold fW at h
 split at h
 ·split at h
  ·rename_i a x1 x hx
   cases h
   obtain ⟨rfl,hx0,hx1⟩:=jT hx
   refine ⟨by simp [xZ.c],0,?_⟩
   by_cases hc:x = -0x80000000000000000000000000000000
   ·subst hc
    simp [xZ.c,wd]
   ·by_cases h1:x/0x10000000000000000 = -0x8000000000000000
    ·have h2 : ¬ x%0x10000000000000000=0:=by omega
     simp [xZ.c,wd,hc,h1,h2]
    ·simp [xZ.c,wd,hc,h1]
  ·cases h
 ·cases h
def Tu:List AP->Option AV
 | [a,b]=>match dW a,dW b with
  | some x,some y=>some (aL (x+y))
  | _,_=>none
 | _=>none
theorem aIR:Ok Tryz.prog 64 Tu:=eE Tryz.func64 dK.ent dK.aA (aB Ny (aB Po (aB aQV aH))) fun av r h=>by
 unfold Tu at h
 split at h
 ·split at h
  ·rename_i a b x1 x2 x y hx hy
   cases h
   obtain ⟨rfl,hx0,hx1⟩:=jT hx
   obtain ⟨rfl,hy0,hy1⟩:=jT hy
   have dx:=lT hx0 hx1
   have dy:=lT hy0 hy1
   refine ⟨by simp [dK.c],0,?_⟩
   by_cases hxn:x<0
   ·by_cases hyn:y<0
    ·skip
     have hxs:x/0x10000000000000000/0x8000000000000000 = -1:=by omega
     have hys:y/0x10000000000000000/0x8000000000000000 = -1:=by omega
     have d1:=aX (show 0<=x+0x100000000000000000000000000000000 by omega) (show x+0x100000000000000000000000000000000<0x100000000000000000000000000000000 by omega)
     have d2:=aX (show 0<=y+0x100000000000000000000000000000000 by omega) (show y+0x100000000000000000000000000000000<0x100000000000000000000000000000000 by omega)
     by_cases ho:0x100000000000000000000000000000000<=x+0x100000000000000000000000000000000+(y+0x100000000000000000000000000000000)
     ·have e:x+0x100000000000000000000000000000000+(y+0x100000000000000000000000000000000)-0x100000000000000000000000000000000=x+0x100000000000000000000000000000000+(y+0x100000000000000000000000000000000)-0x100000000000000000000000000000000:=rfl
      have d3:=aX (show 0<=x+0x100000000000000000000000000000000+(y+0x100000000000000000000000000000000)-0x100000000000000000000000000000000 by omega) (show x+0x100000000000000000000000000000000+(y+0x100000000000000000000000000000000)-0x100000000000000000000000000000000<0x100000000000000000000000000000000 by omega)
      by_cases hh:x+0x100000000000000000000000000000000+(y+0x100000000000000000000000000000000)-0x100000000000000000000000000000000<0x80000000000000000000000000000000
      ·have hs:(x+0x100000000000000000000000000000000+(y+0x100000000000000000000000000000000)-0x100000000000000000000000000000000)/0x10000000000000000/0x8000000000000000=0:=by omega
       by_cases hf : -0x80000000000000000000000000000000<=x+y/\x+y<0x80000000000000000000000000000000<;>simp [dK.c,wd,lb,aV,aS,dZ,aL,dx,dy,d1,d2,d3,hxn,hyn,ho,hh,wz,hxs,hys,hs,hf]<;>omega
      ·have hs:(x+0x100000000000000000000000000000000+(y+0x100000000000000000000000000000000)-0x100000000000000000000000000000000-0x100000000000000000000000000000000)/0x10000000000000000/0x8000000000000000 = -1:=by omega
       by_cases hf : -0x80000000000000000000000000000000<=x+y/\x+y<0x80000000000000000000000000000000<;>simp [dK.c,wd,lb,aV,aS,dZ,aL,dx,dy,d1,d2,d3,hxn,hyn,ho,hh,wz,hxs,hys,hs,hf]<;>omega
     ·have e:x+0x100000000000000000000000000000000+(y+0x100000000000000000000000000000000)=x+0x100000000000000000000000000000000+(y+0x100000000000000000000000000000000):=rfl
      have d3:=aX (show 0<=x+0x100000000000000000000000000000000+(y+0x100000000000000000000000000000000) by omega) (show x+0x100000000000000000000000000000000+(y+0x100000000000000000000000000000000)<0x100000000000000000000000000000000 by omega)
      by_cases hh:x+0x100000000000000000000000000000000+(y+0x100000000000000000000000000000000)<0x80000000000000000000000000000000
      ·have hs:(x+0x100000000000000000000000000000000+(y+0x100000000000000000000000000000000))/0x10000000000000000/0x8000000000000000=0:=by omega
       by_cases hf : -0x80000000000000000000000000000000<=x+y/\x+y<0x80000000000000000000000000000000<;>simp [dK.c,wd,lb,aV,aS,dZ,aL,dx,dy,d1,d2,d3,hxn,hyn,ho,hh,wz,hxs,hys,hs,hf]<;>omega
      ·have hs:(x+0x100000000000000000000000000000000+(y+0x100000000000000000000000000000000)-0x100000000000000000000000000000000)/0x10000000000000000/0x8000000000000000 = -1:=by omega
       by_cases hf : -0x80000000000000000000000000000000<=x+y/\x+y<0x80000000000000000000000000000000<;>simp [dK.c,wd,lb,aV,aS,dZ,aL,dx,dy,d1,d2,d3,hxn,hyn,ho,hh,wz,hxs,hys,hs,hf]<;>omega
    ·skip
     have hxs:x/0x10000000000000000/0x8000000000000000 = -1:=by omega
     have hys:y/0x10000000000000000/0x8000000000000000=0:=by omega
     have d1:=aX (show 0<=x+0x100000000000000000000000000000000 by omega) (show x+0x100000000000000000000000000000000<0x100000000000000000000000000000000 by omega)
     have d2:=aX (show 0<=y by omega) (show y<0x100000000000000000000000000000000 by omega)
     by_cases ho:0x100000000000000000000000000000000<=x+0x100000000000000000000000000000000+y
     ·have e:x+0x100000000000000000000000000000000+y-0x100000000000000000000000000000000=x+0x100000000000000000000000000000000+y-0x100000000000000000000000000000000:=rfl
      have d3:=aX (show 0<=x+0x100000000000000000000000000000000+y-0x100000000000000000000000000000000 by omega) (show x+0x100000000000000000000000000000000+y-0x100000000000000000000000000000000<0x100000000000000000000000000000000 by omega)
      by_cases hh:x+0x100000000000000000000000000000000+y-0x100000000000000000000000000000000<0x80000000000000000000000000000000
      ·have hs:(x+0x100000000000000000000000000000000+y-0x100000000000000000000000000000000)/0x10000000000000000/0x8000000000000000=0:=by omega
       by_cases hf : -0x80000000000000000000000000000000<=x+y/\x+y<0x80000000000000000000000000000000<;>simp [dK.c,wd,lb,aV,aS,dZ,aL,dx,dy,d1,d2,d3,hxn,hyn,ho,hh,wz,hxs,hys,hs,hf]<;>omega
      ·have hs:(x+0x100000000000000000000000000000000+y-0x100000000000000000000000000000000-0x100000000000000000000000000000000)/0x10000000000000000/0x8000000000000000 = -1:=by omega
       by_cases hf : -0x80000000000000000000000000000000<=x+y/\x+y<0x80000000000000000000000000000000<;>simp [dK.c,wd,lb,aV,aS,dZ,aL,dx,dy,d1,d2,d3,hxn,hyn,ho,hh,wz,hxs,hys,hs,hf]<;>omega
     ·have e:x+0x100000000000000000000000000000000+y=x+0x100000000000000000000000000000000+y:=rfl
      have d3:=aX (show 0<=x+0x100000000000000000000000000000000+y by omega) (show x+0x100000000000000000000000000000000+y<0x100000000000000000000000000000000 by omega)
      by_cases hh:x+0x100000000000000000000000000000000+y<0x80000000000000000000000000000000
      ·have hs:(x+0x100000000000000000000000000000000+y)/0x10000000000000000/0x8000000000000000=0:=by omega
       by_cases hf : -0x80000000000000000000000000000000<=x+y/\x+y<0x80000000000000000000000000000000<;>simp [dK.c,wd,lb,aV,aS,dZ,aL,dx,dy,d1,d2,d3,hxn,hyn,ho,hh,wz,hxs,hys,hs,hf]<;>omega
      ·have hs:(x+0x100000000000000000000000000000000+y-0x100000000000000000000000000000000)/0x10000000000000000/0x8000000000000000 = -1:=by omega
       by_cases hf : -0x80000000000000000000000000000000<=x+y/\x+y<0x80000000000000000000000000000000<;>simp [dK.c,wd,lb,aV,aS,dZ,aL,dx,dy,d1,d2,d3,hxn,hyn,ho,hh,wz,hxs,hys,hs,hf]<;>omega
   ·by_cases hyn:y<0
    ·skip
     have hxs:x/0x10000000000000000/0x8000000000000000=0:=by omega
     have hys:y/0x10000000000000000/0x8000000000000000 = -1:=by omega
     have d1:=aX (show 0<=x by omega) (show x<0x100000000000000000000000000000000 by omega)
     have d2:=aX (show 0<=y+0x100000000000000000000000000000000 by omega) (show y+0x100000000000000000000000000000000<0x100000000000000000000000000000000 by omega)
     by_cases ho:0x100000000000000000000000000000000<=x+(y+0x100000000000000000000000000000000)
     ·have e:x+(y+0x100000000000000000000000000000000)-0x100000000000000000000000000000000=x+(y+0x100000000000000000000000000000000)-0x100000000000000000000000000000000:=rfl
      have d3:=aX (show 0<=x+(y+0x100000000000000000000000000000000)-0x100000000000000000000000000000000 by omega) (show x+(y+0x100000000000000000000000000000000)-0x100000000000000000000000000000000<0x100000000000000000000000000000000 by omega)
      by_cases hh:x+(y+0x100000000000000000000000000000000)-0x100000000000000000000000000000000<0x80000000000000000000000000000000
      ·have hs:(x+(y+0x100000000000000000000000000000000)-0x100000000000000000000000000000000)/0x10000000000000000/0x8000000000000000=0:=by omega
       by_cases hf : -0x80000000000000000000000000000000<=x+y/\x+y<0x80000000000000000000000000000000<;>simp [dK.c,wd,lb,aV,aS,dZ,aL,dx,dy,d1,d2,d3,hxn,hyn,ho,hh,wz,hxs,hys,hs,hf]<;>omega
      ·have hs:(x+(y+0x100000000000000000000000000000000)-0x100000000000000000000000000000000-0x100000000000000000000000000000000)/0x10000000000000000/0x8000000000000000 = -1:=by omega
       by_cases hf : -0x80000000000000000000000000000000<=x+y/\x+y<0x80000000000000000000000000000000<;>simp [dK.c,wd,lb,aV,aS,dZ,aL,dx,dy,d1,d2,d3,hxn,hyn,ho,hh,wz,hxs,hys,hs,hf]<;>omega
     ·have e:x+(y+0x100000000000000000000000000000000)=x+(y+0x100000000000000000000000000000000):=rfl
      have d3:=aX (show 0<=x+(y+0x100000000000000000000000000000000) by omega) (show x+(y+0x100000000000000000000000000000000)<0x100000000000000000000000000000000 by omega)
      by_cases hh:x+(y+0x100000000000000000000000000000000)<0x80000000000000000000000000000000
      ·have hs:(x+(y+0x100000000000000000000000000000000))/0x10000000000000000/0x8000000000000000=0:=by omega
       by_cases hf : -0x80000000000000000000000000000000<=x+y/\x+y<0x80000000000000000000000000000000<;>simp [dK.c,wd,lb,aV,aS,dZ,aL,dx,dy,d1,d2,d3,hxn,hyn,ho,hh,wz,hxs,hys,hs,hf]<;>omega
      ·have hs:(x+(y+0x100000000000000000000000000000000)-0x100000000000000000000000000000000)/0x10000000000000000/0x8000000000000000 = -1:=by omega
       by_cases hf : -0x80000000000000000000000000000000<=x+y/\x+y<0x80000000000000000000000000000000<;>simp [dK.c,wd,lb,aV,aS,dZ,aL,dx,dy,d1,d2,d3,hxn,hyn,ho,hh,wz,hxs,hys,hs,hf]<;>omega
    ·skip
     have hxs:x/0x10000000000000000/0x8000000000000000=0:=by omega
     have hys:y/0x10000000000000000/0x8000000000000000=0:=by omega
     have d1:=aX (show 0<=x by omega) (show x<0x100000000000000000000000000000000 by omega)
     have d2:=aX (show 0<=y by omega) (show y<0x100000000000000000000000000000000 by omega)
     by_cases ho:0x100000000000000000000000000000000<=x+y
     ·have e:x+y-0x100000000000000000000000000000000=x+y-0x100000000000000000000000000000000:=rfl
      have d3:=aX (show 0<=x+y-0x100000000000000000000000000000000 by omega) (show x+y-0x100000000000000000000000000000000<0x100000000000000000000000000000000 by omega)
      by_cases hh:x+y-0x100000000000000000000000000000000<0x80000000000000000000000000000000
      ·have hs:(x+y-0x100000000000000000000000000000000)/0x10000000000000000/0x8000000000000000=0:=by omega
       by_cases hf : -0x80000000000000000000000000000000<=x+y/\x+y<0x80000000000000000000000000000000<;>simp [dK.c,wd,lb,aV,aS,dZ,aL,dx,dy,d1,d2,d3,hxn,hyn,ho,hh,wz,hxs,hys,hs,hf]<;>omega
      ·have hs:(x+y-0x100000000000000000000000000000000-0x100000000000000000000000000000000)/0x10000000000000000/0x8000000000000000 = -1:=by omega
       by_cases hf : -0x80000000000000000000000000000000<=x+y/\x+y<0x80000000000000000000000000000000<;>simp [dK.c,wd,lb,aV,aS,dZ,aL,dx,dy,d1,d2,d3,hxn,hyn,ho,hh,wz,hxs,hys,hs,hf]<;>omega
     ·have e:x+y=x+y:=rfl
      have d3:=aX (show 0<=x+y by omega) (show x+y<0x100000000000000000000000000000000 by omega)
      by_cases hh:x+y<0x80000000000000000000000000000000
      ·have hs:(x+y)/0x10000000000000000/0x8000000000000000=0:=by omega
       by_cases hf : -0x80000000000000000000000000000000<=x+y/\x+y<0x80000000000000000000000000000000<;>simp [dK.c,wd,lb,aV,aS,dZ,aL,dx,dy,d1,d2,d3,hxn,hyn,ho,hh,wz,hxs,hys,hs,hf]<;>omega
      ·have hs:(x+y-0x100000000000000000000000000000000)/0x10000000000000000/0x8000000000000000 = -1:=by omega
       by_cases hf : -0x80000000000000000000000000000000<=x+y/\x+y<0x80000000000000000000000000000000<;>simp [dK.c,wd,lb,aV,aS,dZ,aL,dx,dy,d1,d2,d3,hxn,hyn,ho,hh,wz,hxs,hys,hs,hf]<;>omega
  ·cases h
 ·cases h
def fO:List AP->Option AV
 | [a,b]=>match dW a,dW b with
  | some x,some y=>some (aL (x-y))
  | _,_=>none
 | _=>none
theorem j6:Ok Tryz.prog 66 fO:=eE Tryz.func66 dM.ent dM.aA (aB Ny (aB Po (aB Jn aH))) fun av r h=>by
 unfold fO at h
 split at h
 ·split at h
  ·rename_i a b x1 x2 x y hx hy
   cases h
   obtain ⟨rfl,hx0,hx1⟩:=jT hx
   obtain ⟨rfl,hy0,hy1⟩:=jT hy
   have dx:=lT hx0 hx1
   have dy:=lT hy0 hy1
   refine ⟨by simp [dM.c],0,?_⟩
   by_cases hxn:x<0
   ·by_cases hyn:y<0
    ·skip
     have hxs:x/0x10000000000000000/0x8000000000000000 = -1:=by omega
     have hys:y/0x10000000000000000/0x8000000000000000 = -1:=by omega
     have d1:=aX (show 0<=x+0x100000000000000000000000000000000 by omega) (show x+0x100000000000000000000000000000000<0x100000000000000000000000000000000 by omega)
     have d2:=aX (show 0<=y+0x100000000000000000000000000000000 by omega) (show y+0x100000000000000000000000000000000<0x100000000000000000000000000000000 by omega)
     by_cases ho:x+0x100000000000000000000000000000000<y+0x100000000000000000000000000000000
     ·have e:x+0x100000000000000000000000000000000-(y+0x100000000000000000000000000000000)+0x100000000000000000000000000000000=x+0x100000000000000000000000000000000-(y+0x100000000000000000000000000000000)+0x100000000000000000000000000000000:=rfl
      have d3:=aX (show 0<=x+0x100000000000000000000000000000000-(y+0x100000000000000000000000000000000)+0x100000000000000000000000000000000 by omega) (show x+0x100000000000000000000000000000000-(y+0x100000000000000000000000000000000)+0x100000000000000000000000000000000<0x100000000000000000000000000000000 by omega)
      by_cases hh:x+0x100000000000000000000000000000000-(y+0x100000000000000000000000000000000)+0x100000000000000000000000000000000<0x80000000000000000000000000000000
      ·have hs:(x+0x100000000000000000000000000000000-(y+0x100000000000000000000000000000000)+0x100000000000000000000000000000000)/0x10000000000000000/0x8000000000000000=0:=by omega
       by_cases hf : -0x80000000000000000000000000000000<=x-y/\x-y<0x80000000000000000000000000000000<;>simp [dM.c,wd,lb,aV,aS,bH,aL,dx,dy,d1,d2,d3,hxn,hyn,ho,hh,wz,hxs,hys,hs,hf]<;>omega
      ·have hs:(x+0x100000000000000000000000000000000-(y+0x100000000000000000000000000000000)+0x100000000000000000000000000000000-0x100000000000000000000000000000000)/0x10000000000000000/0x8000000000000000 = -1:=by omega
       by_cases hf : -0x80000000000000000000000000000000<=x-y/\x-y<0x80000000000000000000000000000000<;>simp [dM.c,wd,lb,aV,aS,bH,aL,dx,dy,d1,d2,d3,hxn,hyn,ho,hh,wz,hxs,hys,hs,hf]<;>omega
     ·have e:x+0x100000000000000000000000000000000-(y+0x100000000000000000000000000000000)=x+0x100000000000000000000000000000000-(y+0x100000000000000000000000000000000):=rfl
      have d3:=aX (show 0<=x+0x100000000000000000000000000000000-(y+0x100000000000000000000000000000000) by omega) (show x+0x100000000000000000000000000000000-(y+0x100000000000000000000000000000000)<0x100000000000000000000000000000000 by omega)
      by_cases hh:x+0x100000000000000000000000000000000-(y+0x100000000000000000000000000000000)<0x80000000000000000000000000000000
      ·have hs:(x+0x100000000000000000000000000000000-(y+0x100000000000000000000000000000000))/0x10000000000000000/0x8000000000000000=0:=by omega
       by_cases hf : -0x80000000000000000000000000000000<=x-y/\x-y<0x80000000000000000000000000000000<;>simp [dM.c,wd,lb,aV,aS,bH,aL,dx,dy,d1,d2,d3,hxn,hyn,ho,hh,wz,hxs,hys,hs,hf]<;>omega
      ·have hs:(x+0x100000000000000000000000000000000-(y+0x100000000000000000000000000000000)-0x100000000000000000000000000000000)/0x10000000000000000/0x8000000000000000 = -1:=by omega
       by_cases hf : -0x80000000000000000000000000000000<=x-y/\x-y<0x80000000000000000000000000000000<;>simp [dM.c,wd,lb,aV,aS,bH,aL,dx,dy,d1,d2,d3,hxn,hyn,ho,hh,wz,hxs,hys,hs,hf]<;>omega
    ·skip
     have hxs:x/0x10000000000000000/0x8000000000000000 = -1:=by omega
     have hys:y/0x10000000000000000/0x8000000000000000=0:=by omega
     have d1:=aX (show 0<=x+0x100000000000000000000000000000000 by omega) (show x+0x100000000000000000000000000000000<0x100000000000000000000000000000000 by omega)
     have d2:=aX (show 0<=y by omega) (show y<0x100000000000000000000000000000000 by omega)
     by_cases ho:x+0x100000000000000000000000000000000<y
     ·have e:x+0x100000000000000000000000000000000-y+0x100000000000000000000000000000000=x+0x100000000000000000000000000000000-y+0x100000000000000000000000000000000:=rfl
      have d3:=aX (show 0<=x+0x100000000000000000000000000000000-y+0x100000000000000000000000000000000 by omega) (show x+0x100000000000000000000000000000000-y+0x100000000000000000000000000000000<0x100000000000000000000000000000000 by omega)
      by_cases hh:x+0x100000000000000000000000000000000-y+0x100000000000000000000000000000000<0x80000000000000000000000000000000
      ·have hs:(x+0x100000000000000000000000000000000-y+0x100000000000000000000000000000000)/0x10000000000000000/0x8000000000000000=0:=by omega
       by_cases hf : -0x80000000000000000000000000000000<=x-y/\x-y<0x80000000000000000000000000000000<;>simp [dM.c,wd,lb,aV,aS,bH,aL,dx,dy,d1,d2,d3,hxn,hyn,ho,hh,wz,hxs,hys,hs,hf]<;>omega
      ·have hs:(x+0x100000000000000000000000000000000-y+0x100000000000000000000000000000000-0x100000000000000000000000000000000)/0x10000000000000000/0x8000000000000000 = -1:=by omega
       by_cases hf : -0x80000000000000000000000000000000<=x-y/\x-y<0x80000000000000000000000000000000<;>simp [dM.c,wd,lb,aV,aS,bH,aL,dx,dy,d1,d2,d3,hxn,hyn,ho,hh,wz,hxs,hys,hs,hf]<;>omega
     ·have e:x+0x100000000000000000000000000000000-y=x+0x100000000000000000000000000000000-y:=rfl
      have d3:=aX (show 0<=x+0x100000000000000000000000000000000-y by omega) (show x+0x100000000000000000000000000000000-y<0x100000000000000000000000000000000 by omega)
      by_cases hh:x+0x100000000000000000000000000000000-y<0x80000000000000000000000000000000
      ·have hs:(x+0x100000000000000000000000000000000-y)/0x10000000000000000/0x8000000000000000=0:=by omega
       by_cases hf : -0x80000000000000000000000000000000<=x-y/\x-y<0x80000000000000000000000000000000<;>simp [dM.c,wd,lb,aV,aS,bH,aL,dx,dy,d1,d2,d3,hxn,hyn,ho,hh,wz,hxs,hys,hs,hf]<;>omega
      ·have hs:(x+0x100000000000000000000000000000000-y-0x100000000000000000000000000000000)/0x10000000000000000/0x8000000000000000 = -1:=by omega
       by_cases hf : -0x80000000000000000000000000000000<=x-y/\x-y<0x80000000000000000000000000000000<;>simp [dM.c,wd,lb,aV,aS,bH,aL,dx,dy,d1,d2,d3,hxn,hyn,ho,hh,wz,hxs,hys,hs,hf]<;>omega
   ·by_cases hyn:y<0
    ·skip
     have hxs:x/0x10000000000000000/0x8000000000000000=0:=by omega
     have hys:y/0x10000000000000000/0x8000000000000000 = -1:=by omega
     have d1:=aX (show 0<=x by omega) (show x<0x100000000000000000000000000000000 by omega)
     have d2:=aX (show 0<=y+0x100000000000000000000000000000000 by omega) (show y+0x100000000000000000000000000000000<0x100000000000000000000000000000000 by omega)
     by_cases ho:x<y+0x100000000000000000000000000000000
     ·have e:x-(y+0x100000000000000000000000000000000)+0x100000000000000000000000000000000=x-(y+0x100000000000000000000000000000000)+0x100000000000000000000000000000000:=rfl
      have d3:=aX (show 0<=x-(y+0x100000000000000000000000000000000)+0x100000000000000000000000000000000 by omega) (show x-(y+0x100000000000000000000000000000000)+0x100000000000000000000000000000000<0x100000000000000000000000000000000 by omega)
      by_cases hh:x-(y+0x100000000000000000000000000000000)+0x100000000000000000000000000000000<0x80000000000000000000000000000000
      ·have hs:(x-(y+0x100000000000000000000000000000000)+0x100000000000000000000000000000000)/0x10000000000000000/0x8000000000000000=0:=by omega
       by_cases hf : -0x80000000000000000000000000000000<=x-y/\x-y<0x80000000000000000000000000000000<;>simp [dM.c,wd,lb,aV,aS,bH,aL,dx,dy,d1,d2,d3,hxn,hyn,ho,hh,wz,hxs,hys,hs,hf]<;>omega
      ·have hs:(x-(y+0x100000000000000000000000000000000)+0x100000000000000000000000000000000-0x100000000000000000000000000000000)/0x10000000000000000/0x8000000000000000 = -1:=by omega
       by_cases hf : -0x80000000000000000000000000000000<=x-y/\x-y<0x80000000000000000000000000000000<;>simp [dM.c,wd,lb,aV,aS,bH,aL,dx,dy,d1,d2,d3,hxn,hyn,ho,hh,wz,hxs,hys,hs,hf]<;>omega
     ·have e:x-(y+0x100000000000000000000000000000000)=x-(y+0x100000000000000000000000000000000):=rfl
      have d3:=aX (show 0<=x-(y+0x100000000000000000000000000000000) by omega) (show x-(y+0x100000000000000000000000000000000)<0x100000000000000000000000000000000 by omega)
      by_cases hh:x-(y+0x100000000000000000000000000000000)<0x80000000000000000000000000000000
      ·have hs:(x-(y+0x100000000000000000000000000000000))/0x10000000000000000/0x8000000000000000=0:=by omega
       by_cases hf : -0x80000000000000000000000000000000<=x-y/\x-y<0x80000000000000000000000000000000<;>simp [dM.c,wd,lb,aV,aS,bH,aL,dx,dy,d1,d2,d3,hxn,hyn,ho,hh,wz,hxs,hys,hs,hf]<;>omega
      ·have hs:(x-(y+0x100000000000000000000000000000000)-0x100000000000000000000000000000000)/0x10000000000000000/0x8000000000000000 = -1:=by omega
       by_cases hf : -0x80000000000000000000000000000000<=x-y/\x-y<0x80000000000000000000000000000000<;>simp [dM.c,wd,lb,aV,aS,bH,aL,dx,dy,d1,d2,d3,hxn,hyn,ho,hh,wz,hxs,hys,hs,hf]<;>omega
    ·skip
     have hxs:x/0x10000000000000000/0x8000000000000000=0:=by omega
     have hys:y/0x10000000000000000/0x8000000000000000=0:=by omega
     have d1:=aX (show 0<=x by omega) (show x<0x100000000000000000000000000000000 by omega)
     have d2:=aX (show 0<=y by omega) (show y<0x100000000000000000000000000000000 by omega)
     by_cases ho:x<y
     ·have e:x-y+0x100000000000000000000000000000000=x-y+0x100000000000000000000000000000000:=rfl
      have d3:=aX (show 0<=x-y+0x100000000000000000000000000000000 by omega) (show x-y+0x100000000000000000000000000000000<0x100000000000000000000000000000000 by omega)
      by_cases hh:x-y+0x100000000000000000000000000000000<0x80000000000000000000000000000000
      ·have hs:(x-y+0x100000000000000000000000000000000)/0x10000000000000000/0x8000000000000000=0:=by omega
       by_cases hf : -0x80000000000000000000000000000000<=x-y/\x-y<0x80000000000000000000000000000000<;>simp [dM.c,wd,lb,aV,aS,bH,aL,dx,dy,d1,d2,d3,hxn,hyn,ho,hh,wz,hxs,hys,hs,hf]<;>omega
      ·have hs:(x-y+0x100000000000000000000000000000000-0x100000000000000000000000000000000)/0x10000000000000000/0x8000000000000000 = -1:=by omega
       by_cases hf : -0x80000000000000000000000000000000<=x-y/\x-y<0x80000000000000000000000000000000<;>simp [dM.c,wd,lb,aV,aS,bH,aL,dx,dy,d1,d2,d3,hxn,hyn,ho,hh,wz,hxs,hys,hs,hf]<;>omega
     ·have e:x-y=x-y:=rfl
      have d3:=aX (show 0<=x-y by omega) (show x-y<0x100000000000000000000000000000000 by omega)
      by_cases hh:x-y<0x80000000000000000000000000000000
      ·have hs:(x-y)/0x10000000000000000/0x8000000000000000=0:=by omega
       by_cases hf : -0x80000000000000000000000000000000<=x-y/\x-y<0x80000000000000000000000000000000<;>simp [dM.c,wd,lb,aV,aS,bH,aL,dx,dy,d1,d2,d3,hxn,hyn,ho,hh,wz,hxs,hys,hs,hf]<;>omega
      ·have hs:(x-y-0x100000000000000000000000000000000)/0x10000000000000000/0x8000000000000000 = -1:=by omega
       by_cases hf : -0x80000000000000000000000000000000<=x-y/\x-y<0x80000000000000000000000000000000<;>simp [dM.c,wd,lb,aV,aS,bH,aL,dx,dy,d1,d2,d3,hxn,hyn,ho,hh,wz,hxs,hys,hs,hf]<;>omega
  ·cases h
 ·cases h
end Go.Proofs.YtfcbohachbeamaaGreatDoor.E
namespace Go.Proofs.YtfcbohachbeamaaGreatDoor.E
open Go.VC Go.RowKit
def Vq:List AP->Option AV
 | [a,b]=>match dW a,dW b with
  | some x,some y=>some (aL (x*y))
  | _,_=>none
 | _=>none
theorem aJA:Ok Tryz.prog 206 Vq:=eE Tryz.func206 gP.ent gP.aA (aB aAz (aB aAx (aB aSv aH))) fun av r h=>by
 unfold Vq at h
 split at h
 ·split at h
  ·rename_i a b x1 x2 x y hx hy
   cases h
   obtain ⟨rfl,hx0,hx1⟩:=jT hx
   obtain ⟨rfl,hy0,hy1⟩:=jT hy
   have dx:=lT hx0 hx1
   have dy:=lT hy0 hy1
   refine ⟨by simp [gP.c],0,?_⟩
   by_cases hxn:x<0
   ·by_cases hyn:y<0
    ·have hxs:x/0x10000000000000000<0:=by omega
     have hys:y/0x10000000000000000<0:=by omega
     have d1:=aX (show 0 <= -x by omega) (show -x<0x100000000000000000000000000000000 by omega)
     have d2:=aX (show 0 <= -y by omega) (show -y<0x100000000000000000000000000000000 by omega)
     obtain ⟨Q,hQ⟩ : ∃ Q,Q=(-x)*(-y):=⟨_,rfl⟩
     have hQ0:0<=Q:=by rw [hQ];exact Int.mul_nonneg (by omega) (by omega)
     have hQ1:Q<=0x80000000000000000000000000000000*0x80000000000000000000000000000000:=by rw [hQ];exact Int.mul_le_mul (by omega) (by omega) (by omega) (by decide)
     have hxy:x*y=Q:=by rw [hQ]<;>grind
     have hQs : -x * -y=Q:=hQ.symm
     clear hQ
     by_cases hM:Q<0x100000000000000000000000000000000
     ·have z1:Q/0x100000000000000000000000000000000=0:=by omega
      have z2:Q%0x100000000000000000000000000000000=Q:=by omega
      have z3:=aX hQ0 hM
      by_cases hf:Q<0x80000000000000000000000000000000
      ·have hf2 : -0x80000000000000000000000000000000<=Q:=by omega
       simp [gP.c,wd,lb,cU,dA,cY,aL,dx,dy,d1,d2,hxn,hyn,hxs,hys,hQs,hxy,z1,z2,z3,hf,hf2]
      ·simp [gP.c,wd,lb,cU,dA,cY,aL,dx,dy,d1,d2,hxn,hyn,hxs,hys,hQs,hxy,z1,z2,z3,hf]
     ·have hf : ¬ Q<0x80000000000000000000000000000000:=by omega
      by_cases z1:Q/0x100000000000000000000000000000000/0x10000000000000000=0
      ·have z2 : ¬ Q/0x100000000000000000000000000000000%0x10000000000000000=0:=by omega
       simp [gP.c,wd,lb,cU,dA,cY,aL,dx,dy,d1,d2,hxn,hyn,hxs,hys,hQs,hxy,z1,z2,hf]<;>omega
      ·simp [gP.c,wd,lb,cU,dA,cY,aL,dx,dy,d1,d2,hxn,hyn,hxs,hys,hQs,hxy,z1,hf]<;>omega
    ·have hxs:x/0x10000000000000000<0:=by omega
     have hys : ¬ y/0x10000000000000000<0:=by omega
     have d1:=aX (show 0 <= -x by omega) (show -x<0x100000000000000000000000000000000 by omega)
     have d2:=aX (show 0<=y by omega) (show y<0x100000000000000000000000000000000 by omega)
     obtain ⟨Q,hQ⟩ : ∃ Q,Q=(-x)*y:=⟨_,rfl⟩
     have hQ0:0<=Q:=by rw [hQ];exact Int.mul_nonneg (by omega) (by omega)
     have hQ1:Q<=0x80000000000000000000000000000000*0x80000000000000000000000000000000:=by rw [hQ];exact Int.mul_le_mul (by omega) (by omega) (by omega) (by decide)
     have hxy:x*y = -Q:=by rw [hQ]<;>grind
     have hQs : -x*y=Q:=hQ.symm
     clear hQ
     by_cases hM:Q<0x100000000000000000000000000000000
     ·have z1:Q/0x100000000000000000000000000000000=0:=by omega
      have z2:Q%0x100000000000000000000000000000000=Q:=by omega
      have z3:=aX hQ0 hM
      by_cases hf:Q<=0x80000000000000000000000000000000
      ·have hf2 : -0x80000000000000000000000000000000 <= -Q /\ -Q<0x80000000000000000000000000000000:=by omega
       simp [gP.c,wd,lb,cU,dA,cY,aL,dx,dy,d1,d2,hxn,hyn,hxs,hys,hQs,hxy,z1,z2,z3,hf,hf2]
      ·have hf2 : ¬ (-0x80000000000000000000000000000000 <= -Q /\ -Q<0x80000000000000000000000000000000):=by omega
       simp [gP.c,wd,lb,cU,dA,cY,aL,dx,dy,d1,d2,hxn,hyn,hxs,hys,hQs,hxy,z1,z2,z3,hf,hf2]
     ·have hf : ¬ (-0x80000000000000000000000000000000 <= -Q /\ -Q<0x80000000000000000000000000000000):=by omega
      by_cases z1:Q/0x100000000000000000000000000000000/0x10000000000000000=0
      ·have z2 : ¬ Q/0x100000000000000000000000000000000%0x10000000000000000=0:=by omega
       simp [gP.c,wd,lb,cU,dA,cY,aL,dx,dy,d1,d2,hxn,hyn,hxs,hys,hQs,hxy,z1,z2,hf]<;>omega
      ·simp [gP.c,wd,lb,cU,dA,cY,aL,dx,dy,d1,d2,hxn,hyn,hxs,hys,hQs,hxy,z1,hf]<;>omega
   ·by_cases hyn:y<0
    ·have hxs : ¬ x/0x10000000000000000<0:=by omega
     have hys:y/0x10000000000000000<0:=by omega
     have d1:=aX (show 0<=x by omega) (show x<0x100000000000000000000000000000000 by omega)
     have d2:=aX (show 0 <= -y by omega) (show -y<0x100000000000000000000000000000000 by omega)
     obtain ⟨Q,hQ⟩ : ∃ Q,Q=x*(-y):=⟨_,rfl⟩
     have hQ0:0<=Q:=by rw [hQ];exact Int.mul_nonneg (by omega) (by omega)
     have hQ1:Q<=0x80000000000000000000000000000000*0x80000000000000000000000000000000:=by rw [hQ];exact Int.mul_le_mul (by omega) (by omega) (by omega) (by decide)
     have hxy:x*y = -Q:=by rw [hQ]<;>grind
     have hQs:x * -y=Q:=hQ.symm
     clear hQ
     by_cases hM:Q<0x100000000000000000000000000000000
     ·have z1:Q/0x100000000000000000000000000000000=0:=by omega
      have z2:Q%0x100000000000000000000000000000000=Q:=by omega
      have z3:=aX hQ0 hM
      by_cases hf:Q<=0x80000000000000000000000000000000
      ·have hf2 : -0x80000000000000000000000000000000 <= -Q /\ -Q<0x80000000000000000000000000000000:=by omega
       simp [gP.c,wd,lb,cU,dA,cY,aL,dx,dy,d1,d2,hxn,hyn,hxs,hys,hQs,hxy,z1,z2,z3,hf,hf2]
      ·have hf2 : ¬ (-0x80000000000000000000000000000000 <= -Q /\ -Q<0x80000000000000000000000000000000):=by omega
       simp [gP.c,wd,lb,cU,dA,cY,aL,dx,dy,d1,d2,hxn,hyn,hxs,hys,hQs,hxy,z1,z2,z3,hf,hf2]
     ·have hf : ¬ (-0x80000000000000000000000000000000 <= -Q /\ -Q<0x80000000000000000000000000000000):=by omega
      by_cases z1:Q/0x100000000000000000000000000000000/0x10000000000000000=0
      ·have z2 : ¬ Q/0x100000000000000000000000000000000%0x10000000000000000=0:=by omega
       simp [gP.c,wd,lb,cU,dA,cY,aL,dx,dy,d1,d2,hxn,hyn,hxs,hys,hQs,hxy,z1,z2,hf]<;>omega
      ·simp [gP.c,wd,lb,cU,dA,cY,aL,dx,dy,d1,d2,hxn,hyn,hxs,hys,hQs,hxy,z1,hf]<;>omega
    ·have hxs : ¬ x/0x10000000000000000<0:=by omega
     have hys : ¬ y/0x10000000000000000<0:=by omega
     have d1:=aX (show 0<=x by omega) (show x<0x100000000000000000000000000000000 by omega)
     have d2:=aX (show 0<=y by omega) (show y<0x100000000000000000000000000000000 by omega)
     obtain ⟨Q,hQ⟩ : ∃ Q,Q=x*y:=⟨_,rfl⟩
     have hQ0:0<=Q:=by rw [hQ];exact Int.mul_nonneg (by omega) (by omega)
     have hQ1:Q<=0x80000000000000000000000000000000*0x80000000000000000000000000000000:=by rw [hQ];exact Int.mul_le_mul (by omega) (by omega) (by omega) (by decide)
     have hxy:x*y=Q:=by rw [hQ]<;>grind
     have hQs:x*y=Q:=hQ.symm
     clear hQ
     by_cases hM:Q<0x100000000000000000000000000000000
     ·have z1:Q/0x100000000000000000000000000000000=0:=by omega
      have z2:Q%0x100000000000000000000000000000000=Q:=by omega
      have z3:=aX hQ0 hM
      by_cases hf:Q<0x80000000000000000000000000000000
      ·have hf2 : -0x80000000000000000000000000000000<=Q:=by omega
       simp [gP.c,wd,lb,cU,dA,cY,aL,dx,dy,d1,d2,hxn,hyn,hxs,hys,hQs,hxy,z1,z2,z3,hf,hf2]
      ·simp [gP.c,wd,lb,cU,dA,cY,aL,dx,dy,d1,d2,hxn,hyn,hxs,hys,hQs,hxy,z1,z2,z3,hf]
     ·have hf : ¬ Q<0x80000000000000000000000000000000:=by omega
      by_cases z1:Q/0x100000000000000000000000000000000/0x10000000000000000=0
      ·have z2 : ¬ Q/0x100000000000000000000000000000000%0x10000000000000000=0:=by omega
       simp [gP.c,wd,lb,cU,dA,cY,aL,dx,dy,d1,d2,hxn,hyn,hxs,hys,hQs,hxy,z1,z2,hf]<;>omega
      ·simp [gP.c,wd,lb,cU,dA,cY,aL,dx,dy,d1,d2,hxn,hyn,hxs,hys,hQs,hxy,z1,hf]<;>omega
  ·cases h
 ·cases h
def xD (P d:Int):AV:=if d<=0 then .t [wd 0,wd 0,iv .i64 3] else if -0x80000000000000000000000000000000<=P/d/\P/d<0x80000000000000000000000000000000 then .t [wd (P/d),wd (P%d),iv .i64 0] else .t [wd 0,wd 0,iv .i64 2]
def Hz:List AP->Option AV
 | [a,b,c]=>match dW a,dW b,dW c with
  | some x,some y,some d=>some (xD (x*y) d)
  | _,_,_=>none
 | _=>none
abbrev aNU:List (Nat×(List AP->Option AV)):= [(207,fP),(209,cU),(208,dA),(105,aV),(210,fT),(211,cY),(106,aS),(212,fW),(162,eS),(66,fO),(109,bH)]
theorem aRD:fA Tryz.prog (gV aNU):=aB aIx (aB aAz (aB aAx (aB Ny (aB aBN (aB aSv (aB Po (aB aED (aB Ml (aB j6 (aB Jn aH))))))))))
theorem gX:dL (.g [.v (.int .u64 0),.v (.int .u64 0)])=some 0:=by decide
theorem gO:dL (.g [.v (.int .u64 0x8000000000000000),.v (.int .u64 0)])=some 0x80000000000000000000000000000000:=by decide
theorem Di:dW (.g [.v (.int .i64 0),.v (.int .u64 1)])=some 1:=by decide
theorem Pw:dW (.g [.v (.int .i64 (-0x8000000000000000)),.v (.int .u64 0)])=some (-0x80000000000000000000000000000000):=by decide
theorem aAa:Ok Tryz.prog 160 Hz:=eE Tryz.func160 eU.ent eU.aA aRD fun av r h=>by
 unfold Hz at h
 split at h
 ·split at h
  ·rename_i a b c x1 x2 x3 x y d hx hy hz
   cases h
   obtain ⟨rfl,hx0,hx1⟩:=jT hx
   obtain ⟨rfl,hy0,hy1⟩:=jT hy
   obtain ⟨rfl,hd0,hd1⟩:=jT hz
   have dx:=lT hx0 hx1
   have dy:=lT hy0 hy1
   have dd:=lT hd0 hd1
   refine ⟨by simp [eU.c],0,?_⟩
   unfold xD
   by_cases hd:0<d
   ·have hdn : ¬ d<0:=by omega
    have hdl : ¬ d<=0:=by omega
    rw [if_neg hdl]
    have dD:=aX (show 0<=d by omega) (show d<0x100000000000000000000000000000000 by omega)
    by_cases hxn:x<0
    ·by_cases hyn:y<0
     ·have hxs:x/0x10000000000000000<0:=by omega
      have hys:y/0x10000000000000000<0:=by omega
      have d1:=aX (show 0 <= -x by omega) (show -x<0x100000000000000000000000000000000 by omega)
      have d2:=aX (show 0 <= -y by omega) (show -y<0x100000000000000000000000000000000 by omega)
      obtain ⟨Q,hQ⟩ : ∃ Q,Q=(-x)*(-y):=⟨_,rfl⟩
      have hQ0:0<=Q:=by rw [hQ];exact Int.mul_nonneg (by omega) (by omega)
      have hQ1:Q<=0x80000000000000000000000000000000*0x80000000000000000000000000000000:=by rw [hQ];exact Int.mul_le_mul (by omega) (by omega) (by omega) (by decide)
      have hxy:x*y=Q:=by rw [hQ]<;>grind
      have hQs : -x * -y=Q:=hQ.symm
      clear hQ
      have dhi:=aX (show 0<=Q/0x100000000000000000000000000000000 by omega) (show Q/0x100000000000000000000000000000000<0x100000000000000000000000000000000 by omega)
      have dlo:=aX (show 0<=Q%0x100000000000000000000000000000000 by omega) (show Q%0x100000000000000000000000000000000<0x100000000000000000000000000000000 by omega)
      rw [show Q%0x100000000000000000000000000000000%0x10000000000000000=Q%0x10000000000000000 by omega] at dlo
      have hN:Q/0x100000000000000000000000000000000*0x100000000000000000000000000000000+Q%0x100000000000000000000000000000000=Q:=by omega
      have n2:=Int.mul_ediv_add_emod Q d
      have n0:0<=Q/d:=Int.ediv_nonneg hQ0 (by omega)
      have l0:0<=Q%d:=Int.emod_nonneg _ (by omega)
      have l1:Q%d<d:=Int.emod_lt_of_pos _ (by omega)
      by_cases hk:Q/0x100000000000000000000000000000000<d
      ·have n1:Q/d<0x100000000000000000000000000000000:=Int.ediv_lt_of_lt_mul (by omega) (by omega)
       generalize hnd:Q/d=n at *
       generalize hld:Q%d=t at *
       have dn:=aX n0 n1
       have dt:=aX l0 (show t<0x100000000000000000000000000000000 by omega)
       have ht:t<0x80000000000000000000000000000000:=by omega
       by_cases hf:n<0x80000000000000000000000000000000
       ·have hf2 : -0x80000000000000000000000000000000<=n:=by omega
        simp [eU.c,wd,lb,fP,cU,dA,aV,fT,cY,aS,fW,eS,fO,bH,aL,dx,dy,dd,dD,hd,hdn,d1,d2,hxn,hyn,hxs,hys,hQs,hxy,dhi,dlo,hN,gX,gO,hk,hnd,hld,dn,dt,ht,hf,hf2]
       ·simp [eU.c,wd,lb,fP,cU,dA,aV,fT,cY,aS,fW,eS,fO,bH,aL,dx,dy,dd,dD,hd,hdn,d1,d2,hxn,hyn,hxs,hys,hQs,hxy,dhi,dlo,hN,gX,gO,hk,hnd,hld,dn,dt,hf]
      ·have hf : ¬ Q/d<0x80000000000000000000000000000000:=by
        intro h
        have h2:(Q/d+1)*d<=0x80000000000000000000000000000000*d:=Int.mul_le_mul_of_nonneg_right (by omega) (by omega)
        have h3:Q<(Q/d+1)*d:=by rw [Int.add_mul,Int.one_mul,Int.mul_comm];omega
        omega
       simp [eU.c,wd,lb,fP,cU,dA,aV,fT,cY,aS,fW,eS,fO,bH,aL,dx,dy,dd,dD,hd,hdn,d1,d2,hxn,hyn,hxs,hys,hQs,hxy,dhi,dlo,hN,gX,gO,hk,hf]
     ·have hxs:x/0x10000000000000000<0:=by omega
      have hys : ¬ y/0x10000000000000000<0:=by omega
      have d1:=aX (show 0 <= -x by omega) (show -x<0x100000000000000000000000000000000 by omega)
      have d2:=aX (show 0<=y by omega) (show y<0x100000000000000000000000000000000 by omega)
      obtain ⟨Q,hQ⟩ : ∃ Q,Q=(-x)*y:=⟨_,rfl⟩
      have hQ0:0<=Q:=by rw [hQ];exact Int.mul_nonneg (by omega) (by omega)
      have hQ1:Q<=0x80000000000000000000000000000000*0x80000000000000000000000000000000:=by rw [hQ];exact Int.mul_le_mul (by omega) (by omega) (by omega) (by decide)
      have hxy:x*y = -Q:=by rw [hQ]<;>grind
      have hQs : -x*y=Q:=hQ.symm
      clear hQ
      have dhi:=aX (show 0<=Q/0x100000000000000000000000000000000 by omega) (show Q/0x100000000000000000000000000000000<0x100000000000000000000000000000000 by omega)
      have dlo:=aX (show 0<=Q%0x100000000000000000000000000000000 by omega) (show Q%0x100000000000000000000000000000000<0x100000000000000000000000000000000 by omega)
      rw [show Q%0x100000000000000000000000000000000%0x10000000000000000=Q%0x10000000000000000 by omega] at dlo
      have hN:Q/0x100000000000000000000000000000000*0x100000000000000000000000000000000+Q%0x100000000000000000000000000000000=Q:=by omega
      have n2:=Int.mul_ediv_add_emod Q d
      have n0:0<=Q/d:=Int.ediv_nonneg hQ0 (by omega)
      have l0:0<=Q%d:=Int.emod_nonneg _ (by omega)
      have l1:Q%d<d:=Int.emod_lt_of_pos _ (by omega)
      have hdiv : -Q/d=(if Q%d=0 then -(Q/d) else -(Q/d)-1) /\ -Q%d=(if Q%d=0 then 0 else d-Q%d):=by
       rw [Int.ediv_emod_unique (by omega)]
       split
       ·refine ⟨?_,by omega,by omega⟩;rw [Int.mul_neg];omega
       ·refine ⟨?_,by omega,by omega⟩;rw [Int.mul_sub,Int.mul_neg,Int.mul_one];omega
      by_cases hk:Q/0x100000000000000000000000000000000<d
      ·have n1:Q/d<0x100000000000000000000000000000000:=Int.ediv_lt_of_lt_mul (by omega) (by omega)
       obtain ⟨hdv,hdm⟩:=hdiv
       generalize hnd:Q/d=n at *
       generalize hld:Q%d=t at *
       have dn:=aX n0 n1
       have dt:=aX l0 (show t<0x100000000000000000000000000000000 by omega)
       have ht:t<0x80000000000000000000000000000000:=by omega
       by_cases ht0:t=0
       ·rw [if_pos ht0] at hdv hdm
        subst ht0
        by_cases hf:n<=0x80000000000000000000000000000000
        ·have hf2 : -0x80000000000000000000000000000000 <= -n /\ -n<0x80000000000000000000000000000000:=by omega
         simp [eU.c,wd,lb,fP,cU,dA,aV,fT,cY,aS,fW,eS,fO,bH,aL,dx,dy,dd,dD,hd,hdn,d1,d2,hxn,hyn,hxs,hys,hQs,hxy,dhi,dlo,hN,gX,gO,hk,hnd,hld,dn,dt,ht,hf,hf2,hdv,hdm]
        ·have hf2 : ¬ (-0x80000000000000000000000000000000 <= -n /\ -n<0x80000000000000000000000000000000):=by omega
         simp [eU.c,wd,lb,fP,cU,dA,aV,fT,cY,aS,fW,eS,fO,bH,aL,dx,dy,dd,dD,hd,hdn,d1,d2,hxn,hyn,hxs,hys,hQs,hxy,dhi,dlo,hN,gX,gO,hk,hnd,hld,dn,dt,hf,hf2,hdv,hdm]
       ·rw [if_neg ht0] at hdv hdm
        by_cases hf:n<=0x80000000000000000000000000000000
        ·have dqn:=lT (show -0x80000000000000000000000000000000 <= -n by omega) (show -n<0x80000000000000000000000000000000 by omega)
         by_cases hl:n=0x80000000000000000000000000000000
         ·subst hl
          by_cases z1:t/0x10000000000000000=0
          ·have z2 : ¬ t%0x10000000000000000=0:=by omega
           simp [eU.c,wd,lb,fP,cU,dA,aV,fT,cY,aS,fW,eS,fO,bH,aL,dx,dy,dd,dD,hd,hdn,d1,d2,hxn,hyn,hxs,hys,hQs,hxy,dhi,dlo,hN,gX,gO,hk,hnd,hld,dn,dt,ht0,hf,hdv,hdm,z1,z2,Pw]
          ·simp [eU.c,wd,lb,fP,cU,dA,aV,fT,cY,aS,fW,eS,fO,bH,aL,dx,dy,dd,dD,hd,hdn,d1,d2,hxn,hyn,hxs,hys,hQs,hxy,dhi,dlo,hN,gX,gO,hk,hnd,hld,dn,dt,ht0,hf,hdv,hdm,z1,Pw]
         ·have hl2 : ¬ -n = -0x80000000000000000000000000000000:=by omega
          have hf2 : -0x80000000000000000000000000000000 <= -n-1 /\ -n-1<0x80000000000000000000000000000000:=by omega
          have hs : ¬ d<t:=by omega
          have dr:=aX (show 0<=d-t by omega) (show d-t<0x100000000000000000000000000000000 by omega)
          have hr:d-t<0x80000000000000000000000000000000:=by omega
          by_cases z1:t/0x10000000000000000=0
          ·have z2 : ¬ t%0x10000000000000000=0:=by omega
           have dt0:=dt
           rw [z1] at dt0
           simp [eU.c,wd,lb,fP,cU,dA,aV,fT,cY,aS,fW,eS,fO,bH,aL,dx,dy,dd,dD,hd,hdn,d1,d2,hxn,hyn,hxs,hys,hQs,hxy,dhi,dlo,hN,gX,gO,hk,hnd,hld,dn,dt0,ht,ht0,hf,hdv,hdm,z1,z2,dqn,hl,hl2,hf2,Di,hs,dr,hr]
          ·simp [eU.c,wd,lb,fP,cU,dA,aV,fT,cY,aS,fW,eS,fO,bH,aL,dx,dy,dd,dD,hd,hdn,d1,d2,hxn,hyn,hxs,hys,hQs,hxy,dhi,dlo,hN,gX,gO,hk,hnd,hld,dn,dt,ht,ht0,hf,hdv,hdm,z1,dqn,hl,hl2,hf2,Di,hs,dr,hr]
        ·have hf2 : ¬ (-0x80000000000000000000000000000000 <= -n-1 /\ -n-1<0x80000000000000000000000000000000):=by omega
         simp [eU.c,wd,lb,fP,cU,dA,aV,fT,cY,aS,fW,eS,fO,bH,aL,dx,dy,dd,dD,hd,hdn,d1,d2,hxn,hyn,hxs,hys,hQs,hxy,dhi,dlo,hN,gX,gO,hk,hnd,hld,dn,dt,hf,hf2,hdv,hdm]
      ·have hf : ¬ (-0x80000000000000000000000000000000 <= -Q/d /\ -Q/d<0x80000000000000000000000000000000):=by
        intro h
        have h1:=hdiv.1
        have h4:Q/d<=0x80000000000000000000000000000000:=by split at h1<;>omega
        have h2:(Q/d+1)*d<=(0x80000000000000000000000000000000+1)*d:=Int.mul_le_mul_of_nonneg_right (by omega) (by omega)
        have h3:Q<(Q/d+1)*d:=by rw [Int.add_mul,Int.one_mul,Int.mul_comm];omega
        omega
       simp [eU.c,wd,lb,fP,cU,dA,aV,fT,cY,aS,fW,eS,fO,bH,aL,dx,dy,dd,dD,hd,hdn,d1,d2,hxn,hyn,hxs,hys,hQs,hxy,dhi,dlo,hN,gX,gO,hk,hf]
    ·by_cases hyn:y<0
     ·have hxs : ¬ x/0x10000000000000000<0:=by omega
      have hys:y/0x10000000000000000<0:=by omega
      have d1:=aX (show 0<=x by omega) (show x<0x100000000000000000000000000000000 by omega)
      have d2:=aX (show 0 <= -y by omega) (show -y<0x100000000000000000000000000000000 by omega)
      obtain ⟨Q,hQ⟩ : ∃ Q,Q=x*(-y):=⟨_,rfl⟩
      have hQ0:0<=Q:=by rw [hQ];exact Int.mul_nonneg (by omega) (by omega)
      have hQ1:Q<=0x80000000000000000000000000000000*0x80000000000000000000000000000000:=by rw [hQ];exact Int.mul_le_mul (by omega) (by omega) (by omega) (by decide)
      have hxy:x*y = -Q:=by rw [hQ]<;>grind
      have hQs:x * -y=Q:=hQ.symm
      clear hQ
      have dhi:=aX (show 0<=Q/0x100000000000000000000000000000000 by omega) (show Q/0x100000000000000000000000000000000<0x100000000000000000000000000000000 by omega)
      have dlo:=aX (show 0<=Q%0x100000000000000000000000000000000 by omega) (show Q%0x100000000000000000000000000000000<0x100000000000000000000000000000000 by omega)
      rw [show Q%0x100000000000000000000000000000000%0x10000000000000000=Q%0x10000000000000000 by omega] at dlo
      have hN:Q/0x100000000000000000000000000000000*0x100000000000000000000000000000000+Q%0x100000000000000000000000000000000=Q:=by omega
      have n2:=Int.mul_ediv_add_emod Q d
      have n0:0<=Q/d:=Int.ediv_nonneg hQ0 (by omega)
      have l0:0<=Q%d:=Int.emod_nonneg _ (by omega)
      have l1:Q%d<d:=Int.emod_lt_of_pos _ (by omega)
      have hdiv : -Q/d=(if Q%d=0 then -(Q/d) else -(Q/d)-1) /\ -Q%d=(if Q%d=0 then 0 else d-Q%d):=by
       rw [Int.ediv_emod_unique (by omega)]
       split
       ·refine ⟨?_,by omega,by omega⟩;rw [Int.mul_neg];omega
       ·refine ⟨?_,by omega,by omega⟩;rw [Int.mul_sub,Int.mul_neg,Int.mul_one];omega
      by_cases hk:Q/0x100000000000000000000000000000000<d
      ·have n1:Q/d<0x100000000000000000000000000000000:=Int.ediv_lt_of_lt_mul (by omega) (by omega)
       obtain ⟨hdv,hdm⟩:=hdiv
       generalize hnd:Q/d=n at *
       generalize hld:Q%d=t at *
       have dn:=aX n0 n1
       have dt:=aX l0 (show t<0x100000000000000000000000000000000 by omega)
       have ht:t<0x80000000000000000000000000000000:=by omega
       by_cases ht0:t=0
       ·rw [if_pos ht0] at hdv hdm
        subst ht0
        by_cases hf:n<=0x80000000000000000000000000000000
        ·have hf2 : -0x80000000000000000000000000000000 <= -n /\ -n<0x80000000000000000000000000000000:=by omega
         simp [eU.c,wd,lb,fP,cU,dA,aV,fT,cY,aS,fW,eS,fO,bH,aL,dx,dy,dd,dD,hd,hdn,d1,d2,hxn,hyn,hxs,hys,hQs,hxy,dhi,dlo,hN,gX,gO,hk,hnd,hld,dn,dt,ht,hf,hf2,hdv,hdm]
        ·have hf2 : ¬ (-0x80000000000000000000000000000000 <= -n /\ -n<0x80000000000000000000000000000000):=by omega
         simp [eU.c,wd,lb,fP,cU,dA,aV,fT,cY,aS,fW,eS,fO,bH,aL,dx,dy,dd,dD,hd,hdn,d1,d2,hxn,hyn,hxs,hys,hQs,hxy,dhi,dlo,hN,gX,gO,hk,hnd,hld,dn,dt,hf,hf2,hdv,hdm]
       ·rw [if_neg ht0] at hdv hdm
        by_cases hf:n<=0x80000000000000000000000000000000
        ·have dqn:=lT (show -0x80000000000000000000000000000000 <= -n by omega) (show -n<0x80000000000000000000000000000000 by omega)
         by_cases hl:n=0x80000000000000000000000000000000
         ·subst hl
          by_cases z1:t/0x10000000000000000=0
          ·have z2 : ¬ t%0x10000000000000000=0:=by omega
           simp [eU.c,wd,lb,fP,cU,dA,aV,fT,cY,aS,fW,eS,fO,bH,aL,dx,dy,dd,dD,hd,hdn,d1,d2,hxn,hyn,hxs,hys,hQs,hxy,dhi,dlo,hN,gX,gO,hk,hnd,hld,dn,dt,ht0,hf,hdv,hdm,z1,z2,Pw]
          ·simp [eU.c,wd,lb,fP,cU,dA,aV,fT,cY,aS,fW,eS,fO,bH,aL,dx,dy,dd,dD,hd,hdn,d1,d2,hxn,hyn,hxs,hys,hQs,hxy,dhi,dlo,hN,gX,gO,hk,hnd,hld,dn,dt,ht0,hf,hdv,hdm,z1,Pw]
         ·have hl2 : ¬ -n = -0x80000000000000000000000000000000:=by omega
          have hf2 : -0x80000000000000000000000000000000 <= -n-1 /\ -n-1<0x80000000000000000000000000000000:=by omega
          have hs : ¬ d<t:=by omega
          have dr:=aX (show 0<=d-t by omega) (show d-t<0x100000000000000000000000000000000 by omega)
          have hr:d-t<0x80000000000000000000000000000000:=by omega
          by_cases z1:t/0x10000000000000000=0
          ·have z2 : ¬ t%0x10000000000000000=0:=by omega
           have dt0:=dt
           rw [z1] at dt0
           simp [eU.c,wd,lb,fP,cU,dA,aV,fT,cY,aS,fW,eS,fO,bH,aL,dx,dy,dd,dD,hd,hdn,d1,d2,hxn,hyn,hxs,hys,hQs,hxy,dhi,dlo,hN,gX,gO,hk,hnd,hld,dn,dt0,ht,ht0,hf,hdv,hdm,z1,z2,dqn,hl,hl2,hf2,Di,hs,dr,hr]
          ·simp [eU.c,wd,lb,fP,cU,dA,aV,fT,cY,aS,fW,eS,fO,bH,aL,dx,dy,dd,dD,hd,hdn,d1,d2,hxn,hyn,hxs,hys,hQs,hxy,dhi,dlo,hN,gX,gO,hk,hnd,hld,dn,dt,ht,ht0,hf,hdv,hdm,z1,dqn,hl,hl2,hf2,Di,hs,dr,hr]
        ·have hf2 : ¬ (-0x80000000000000000000000000000000 <= -n-1 /\ -n-1<0x80000000000000000000000000000000):=by omega
         simp [eU.c,wd,lb,fP,cU,dA,aV,fT,cY,aS,fW,eS,fO,bH,aL,dx,dy,dd,dD,hd,hdn,d1,d2,hxn,hyn,hxs,hys,hQs,hxy,dhi,dlo,hN,gX,gO,hk,hnd,hld,dn,dt,hf,hf2,hdv,hdm]
      ·have hf : ¬ (-0x80000000000000000000000000000000 <= -Q/d /\ -Q/d<0x80000000000000000000000000000000):=by
        intro h
        have h1:=hdiv.1
        have h4:Q/d<=0x80000000000000000000000000000000:=by split at h1<;>omega
        have h2:(Q/d+1)*d<=(0x80000000000000000000000000000000+1)*d:=Int.mul_le_mul_of_nonneg_right (by omega) (by omega)
        have h3:Q<(Q/d+1)*d:=by rw [Int.add_mul,Int.one_mul,Int.mul_comm];omega
        omega
       simp [eU.c,wd,lb,fP,cU,dA,aV,fT,cY,aS,fW,eS,fO,bH,aL,dx,dy,dd,dD,hd,hdn,d1,d2,hxn,hyn,hxs,hys,hQs,hxy,dhi,dlo,hN,gX,gO,hk,hf]
     ·have hxs : ¬ x/0x10000000000000000<0:=by omega
      have hys : ¬ y/0x10000000000000000<0:=by omega
      have d1:=aX (show 0<=x by omega) (show x<0x100000000000000000000000000000000 by omega)
      have d2:=aX (show 0<=y by omega) (show y<0x100000000000000000000000000000000 by omega)
      obtain ⟨Q,hQ⟩ : ∃ Q,Q=x*y:=⟨_,rfl⟩
      have hQ0:0<=Q:=by rw [hQ];exact Int.mul_nonneg (by omega) (by omega)
      have hQ1:Q<=0x80000000000000000000000000000000*0x80000000000000000000000000000000:=by rw [hQ];exact Int.mul_le_mul (by omega) (by omega) (by omega) (by decide)
      have hxy:x*y=Q:=by rw [hQ]<;>grind
      have hQs:x*y=Q:=hQ.symm
      clear hQ
      have dhi:=aX (show 0<=Q/0x100000000000000000000000000000000 by omega) (show Q/0x100000000000000000000000000000000<0x100000000000000000000000000000000 by omega)
      have dlo:=aX (show 0<=Q%0x100000000000000000000000000000000 by omega) (show Q%0x100000000000000000000000000000000<0x100000000000000000000000000000000 by omega)
      rw [show Q%0x100000000000000000000000000000000%0x10000000000000000=Q%0x10000000000000000 by omega] at dlo
      have hN:Q/0x100000000000000000000000000000000*0x100000000000000000000000000000000+Q%0x100000000000000000000000000000000=Q:=by omega
      have n2:=Int.mul_ediv_add_emod Q d
      have n0:0<=Q/d:=Int.ediv_nonneg hQ0 (by omega)
      have l0:0<=Q%d:=Int.emod_nonneg _ (by omega)
      have l1:Q%d<d:=Int.emod_lt_of_pos _ (by omega)
      by_cases hk:Q/0x100000000000000000000000000000000<d
      ·have n1:Q/d<0x100000000000000000000000000000000:=Int.ediv_lt_of_lt_mul (by omega) (by omega)
       generalize hnd:Q/d=n at *
       generalize hld:Q%d=t at *
       have dn:=aX n0 n1
       have dt:=aX l0 (show t<0x100000000000000000000000000000000 by omega)
       have ht:t<0x80000000000000000000000000000000:=by omega
       by_cases hf:n<0x80000000000000000000000000000000
       ·have hf2 : -0x80000000000000000000000000000000<=n:=by omega
        simp [eU.c,wd,lb,fP,cU,dA,aV,fT,cY,aS,fW,eS,fO,bH,aL,dx,dy,dd,dD,hd,hdn,d1,d2,hxn,hyn,hxs,hys,hQs,hxy,dhi,dlo,hN,gX,gO,hk,hnd,hld,dn,dt,ht,hf,hf2]
       ·simp [eU.c,wd,lb,fP,cU,dA,aV,fT,cY,aS,fW,eS,fO,bH,aL,dx,dy,dd,dD,hd,hdn,d1,d2,hxn,hyn,hxs,hys,hQs,hxy,dhi,dlo,hN,gX,gO,hk,hnd,hld,dn,dt,hf]
      ·have hf : ¬ Q/d<0x80000000000000000000000000000000:=by
        intro h
        have h2:(Q/d+1)*d<=0x80000000000000000000000000000000*d:=Int.mul_le_mul_of_nonneg_right (by omega) (by omega)
        have h3:Q<(Q/d+1)*d:=by rw [Int.add_mul,Int.one_mul,Int.mul_comm];omega
        omega
       simp [eU.c,wd,lb,fP,cU,dA,aV,fT,cY,aS,fW,eS,fO,bH,aL,dx,dy,dd,dD,hd,hdn,d1,d2,hxn,hyn,hxs,hys,hQs,hxy,dhi,dlo,hN,gX,gO,hk,hf]
   ·have hdl:d<=0:=by omega
    rw [if_pos hdl]
    simp [eU.c,wd,fP,dd,hd]
  ·cases h
 ·cases h
def Tt:List AP->Option AV
 | [a,b]=>match dW a,dW b with
  | some x,some d=>some (xD x d)
  | _,_=>none
 | _=>none
theorem aIK:Ok Tryz.prog 222 Tt:=eE Tryz.func222 wZ.ent wZ.aA (aB Ml (aB aAa aH)) fun av r h=>by
 unfold Tt at h
 split at h
 ·split at h
  ·rename_i a b x1 x2 x d hx hd
   cases h
   obtain ⟨rfl,hx0,hx1⟩:=jT hx
   obtain ⟨rfl,hd0,hd1⟩:=jT hd
   have dx:=lT hx0 hx1
   have dd:=lT hd0 hd1
   refine ⟨by simp [wZ.c],0,?_⟩
   by_cases c1:d<=0
   ·simp [wZ.c,wd,eS,Hz,xD,dx,dd,Di,c1]
   ·by_cases c2 : -0x80000000000000000000000000000000<=x/d/\x/d<0x80000000000000000000000000000000<;>simp [wZ.c,wd,eS,Hz,xD,dx,dd,Di,c1,c2]
  ·cases h
 ·cases h
end Go.Proofs.YtfcbohachbeamaaGreatDoor.E
namespace Go.Proofs.YtfcbohachbeamaaGreatDoor.E
open Go.VC Go.RowKit
theorem Jv {x d:Int} (h0 : -0x80000000000000000000000000000000<=x) (h1:x<0x80000000000000000000000000000000) (hd:0<d) : -0x80000000000000000000000000000000<=x/d/\x/d<0x80000000000000000000000000000000:=by
 constructor
 ·refine Int.le_ediv_of_mul_le hd ?_
  have : -0x80000000000000000000000000000000*d <= -0x80000000000000000000000000000000*1:=by rw [Int.neg_mul,Int.neg_mul];have:0x80000000000000000000000000000000*1<=0x80000000000000000000000000000000*d:=Int.mul_le_mul_of_nonneg_left (by omega) (by decide);omega
  omega
 ·refine Int.ediv_lt_of_lt_mul hd ?_
  have:0x80000000000000000000000000000000*1<=0x80000000000000000000000000000000*d:=Int.mul_le_mul_of_nonneg_left (by omega) (by decide)
  omega
theorem aJ0 {c:Prop} [Decidable c] {a x y:AV} : (a=if c then x else y)=(if c then a=x else a=y):=by
 by_cases h:c<;>simp [h]
theorem aJW {x y:Int} : (bI x y=0)↔x=y:=by unfold bI;split<;>(try split)<;>omega
attribute [simp] Td Ei aAi De aJW iv bv Le Vv aL xD aJ0
abbrev dX {α : Type} : α -> Prop:=fun _=>True
abbrev eO {α β : Type} : α -> β -> Prop:=fun _ _=>True
abbrev lB {α β γ : Type} : α -> β -> γ -> Prop:=fun _ _ _=>True
theorem eW {x:Int} (h:bN.p x):dW (bN.e x)=some x:=lT h.1 h.2
abbrev aAW:=s1 bF dX fun n=> .o (wd n)
abbrev aBg:=s1 bN dX fun x=>if -0x8000000000000000<=x/\x<0x8000000000000000 then .t [iv .i64 x,iv .i64 0] else .t [iv .i64 0,iv .i64 2]
abbrev Ya:=s2 bN bN eO fun x y=> .o (iv .i64 (bI x y))
abbrev Yq:=s2 bN bN eO fun x y=>aL (x+y)
abbrev D4:=s2 bN bN eO fun x y=>aL (x-y)
abbrev Yr:=s2 bN bN eO fun x y=>aL (x*y)
abbrev X4:=s2 bN bN eO fun x d=>xD x d
abbrev Z3:=s3 bN bN bN lB fun x y d=>xD (x*y) d
theorem aHQ:Ok Tryz.prog 162 aAW:=Ml.via fun av r h=>by
 obtain ⟨x,rfl,h1,-,rfl⟩:=pO h
 exact if_pos h1
theorem aHK:Ok Tryz.prog 223 aBg:=aQh.via fun av r h=>by
 obtain ⟨x,rfl,h1,-,rfl⟩:=pO h
 simp only [Qy,eW h1]
 split<;>rfl
theorem aJg:Ok Tryz.prog 165 Ya:=X7.via fun av r h=>by
 obtain ⟨x,y,rfl,h1,h2,-,rfl⟩:=jF h
 simp only [Mi,eW h1,eW h2]
theorem aGc:Ok Tryz.prog 64 Yq:=aIR.via fun av r h=>by
 obtain ⟨x,y,rfl,h1,h2,-,rfl⟩:=jF h
 simp only [Tu,eW h1,eW h2]
theorem aGv:Ok Tryz.prog 66 D4:=j6.via fun av r h=>by
 obtain ⟨x,y,rfl,h1,h2,-,rfl⟩:=jF h
 simp only [fO,eW h1,eW h2]
theorem aHA:Ok Tryz.prog 206 Yr:=aJA.via fun av r h=>by
 obtain ⟨x,y,rfl,h1,h2,-,rfl⟩:=jF h
 simp only [Vq,eW h1,eW h2]
theorem aCT:Ok Tryz.prog 222 X4:=aIK.via fun av r h=>by
 obtain ⟨x,y,rfl,h1,h2,-,rfl⟩:=jF h
 simp only [Tt,eW h1,eW h2]
theorem aJi:Ok Tryz.prog 160 Z3:=aAa.via fun av r h=>by
 obtain ⟨x,y,z,rfl,h1,h2,h3,-,rfl⟩:=Jt h
 simp only [Hz,eW h1,eW h2,eW h3]
end Go.Proofs.YtfcbohachbeamaaGreatDoor.E
end
