/- What the laws' code answers: part 4 of what the rows of this seat lean on. -/
import Derived.Test.YtfcbohachbeamaaGreatDoorProg
import Derived.Conc.RwLib
import Derived.Conc.MuData
import Derived.KernelRfl
import Derived.Test.YtfcbohachbeamaaGreatDoorM0
import Derived.Conc.RwLoneW
import Derived.WalkKit
import Derived.Laws.LoneSync
import Derived.Laws.NewBlocks
import Derived.RegionCalls
import Derived.ChangeAlike
import Derived.Shelf.Strings.OnBuilder
import Derived.Shelf.Strings.Trim
import Derived.Shelf.Strings.SlTrimAscii
import Derived.Shelf.Small.Bits
import Derived.Shelf.Small.Utf8
import Derived.Shelf.Small.Strs
import Derived.Shelf.Strconv.Atoi
import Derived.Shelf.Strconv.Itoa0
import Derived.Shelf.Strconv.Itoa1
import Derived.Shelf.LaysM
import Derived.Shelf.Strconv.Itoa2
import Derived.Shelf.Strconv.Itoa3
import Derived.Shelf.Strings.Search1
import Derived.Shelf.Strings.Search2
import Derived.Shelf.Strings.Cut
import Derived.Shelf.Strings.Prefix
import Derived.Shelf.Bits.Mul64
import Derived.Shelf.Strings.Runes
import Derived.Shelf.Strings.AsciiSet
import Derived.Shelf.Unicode.Decode
set_option linter.unusedVariables false
set_option linter.unusedSimpArgs false
set_option maxHeartbeats 8000000
set_option maxRecDepth 100000
section
namespace Go.Proofs
abbrev Tryz.aE0:Go.Conc.Locks.MuLink:= { lock:=88,unlock:=93,ilock:=126,iunlock:=127,lockSlow:=167,unlockSlow:=168,disable:=74,enable:=77,acquire:=78,relMerge:=79,cas32:=166,add32:=111,tMutex:=79,tIMutex:=77,tPMutex:=149,tPIMutex:=260,tPI32:=196,tUP:=148,tNoCopy:=74,tU32:=75 }
theorem Tryz.Wl:Go.Conc.Locks.MuLib Tryz.prog Tryz.aE0:=
 ⟨Tryz.func88,Tryz.func93,Tryz.func126,Tryz.func127,Tryz.func74,Tryz.func77,Tryz.func78,Tryz.func79,Tryz.func166,Tryz.func111,Tryz.underlying77,Tryz.runUnderlying77,Tryz.sizeOf77,Tryz.isAgg77,Tryz.zeroValue77,Tryz.underlying79,Tryz.runUnderlying79,Tryz.sizeOf79,Tryz.isAgg79,Tryz.zeroValue79,Tryz.underlying149,Tryz.runUnderlying149,Tryz.sizeOf149,Tryz.isAgg149,Tryz.zeroValue149,Tryz.underlying260,Tryz.runUnderlying260,Tryz.sizeOf260,Tryz.isAgg260,Tryz.zeroValue260,Tryz.underlying196,Tryz.runUnderlying196,Tryz.sizeOf196,Tryz.isAgg196,Tryz.zeroValue196,Tryz.underlying148,Tryz.runUnderlying148,Tryz.sizeOf148,Tryz.isAgg148,Tryz.zeroValue148,Tryz.underlying74,Tryz.runUnderlying74,Tryz.sizeOf74,Tryz.isAgg74,Tryz.zeroValue74,Tryz.underlying21,Tryz.runUnderlying21,Tryz.sizeOf21,Tryz.isAgg21,Tryz.zeroValue21,(by kernel_rfl)⟩
abbrev Tryz.Sc:Go.Conc.Locks.RwLink:= { lock:=88,unlock:=93,ilock:=126,iunlock:=127,lockSlow:=167,unlockSlow:=168,disable:=74,enable:=77,acquire:=78,relMerge:=79,cas32:=166,add32:=111,tMutex:=79,tIMutex:=77,tPMutex:=149,tPIMutex:=260,tPI32:=196,tUP:=148,tNoCopy:=74,tU32:=75,rlock:=55,runlock:=56,wlock:=59,wunlock:=60,i32add:=75,raceRead:=73,release:=90,rUnlockSlow:=80,semacqR:=76,semacqW:=89,semrel:=92,sfatal:=91,tRW:=84,tPRW:=146,tAI32:=82,tPAI32:=194,tPU32:=152,tANoCopy:=80 }
theorem Tryz.T9:Go.Conc.Locks.RwCore Tryz.prog Tryz.Sc:=
 ⟨Tryz.func75,Tryz.func73,Tryz.func74,Tryz.func77,Tryz.func78,Tryz.func79,Tryz.func111,Tryz.underlying84,Tryz.runUnderlying84,Tryz.sizeOf84,Tryz.isAgg84,Tryz.zeroValue84,Tryz.underlying82,Tryz.runUnderlying82,Tryz.sizeOf82,Tryz.isAgg82,Tryz.zeroValue82,Tryz.underlying146,Tryz.runUnderlying146,Tryz.sizeOf146,Tryz.isAgg146,Tryz.zeroValue146,Tryz.underlying194,Tryz.runUnderlying194,Tryz.sizeOf194,Tryz.isAgg194,Tryz.zeroValue194,Tryz.underlying152,Tryz.runUnderlying152,Tryz.sizeOf152,Tryz.isAgg152,Tryz.zeroValue152,Tryz.underlying80,Tryz.runUnderlying80,Tryz.sizeOf80,Tryz.isAgg80,Tryz.zeroValue80,Tryz.underlying75,Tryz.runUnderlying75,Tryz.sizeOf75,Tryz.isAgg75,Tryz.zeroValue75,Tryz.underlying79,Tryz.runUnderlying79,Tryz.sizeOf79,Tryz.isAgg79,Tryz.zeroValue79,Tryz.underlying149,Tryz.runUnderlying149,Tryz.sizeOf149,Tryz.isAgg149,Tryz.zeroValue149,Tryz.underlying196,Tryz.runUnderlying196,Tryz.sizeOf196,Tryz.isAgg196,Tryz.zeroValue196,Tryz.underlying148,Tryz.runUnderlying148,Tryz.sizeOf148,Tryz.isAgg148,Tryz.zeroValue148,Tryz.underlying21,Tryz.runUnderlying21,Tryz.sizeOf21,Tryz.isAgg21,Tryz.zeroValue21,(by kernel_rfl),(by kernel_rfl)⟩
theorem Tryz.G5:Go.Conc.Locks.RwRLib Tryz.prog Tryz.Sc:=⟨Tryz.T9,Tryz.func55,Tryz.func56⟩
theorem Tryz.aAf:Go.Conc.Locks.RwWLib Tryz.prog Tryz.Sc:=⟨Tryz.T9,Tryz.Wl,Tryz.func59,Tryz.func60,Tryz.func90,Tryz.underlying3,Tryz.runUnderlying3,Tryz.sizeOf3,Tryz.isAgg3,Tryz.zeroValue3⟩
end Go.Proofs
end
section
namespace Go.Proofs.YtfcbohachbeamaaGreatDoor.E
open Go.RowKit
open Go.MuLone
theorem aCY (a:Addr) (x:Value) (u:FrameMode) (w:World) (hc:w.cell? a=some x) (hz:w.frozen? a=false) :
 CallsD Tryz.prog 252 #[.pointer (some a),.bool true] u w fun e u' w'=>u'=u/\(e = .returned (.tuple #[])/\w'=w.drew.setCell a (.int .u32 1)):=by
 have hc':w.drew.cell? a=some x:=by go_simp
 have hz':w.drew.frozen? a=false:=by go_simp
 have hst:=run_call_store (P:=Tryz.prog) Tryz.func271 (by kernel_rfl) (by kernel_rfl) (by kernel_rfl) (by kernel_rfl) (k:= .u32) (y:=1) hc' hz'
 go_enter_d Tryz.func252,Tryz.ntmps252
 go_wp2
 go_region_calls
 all_goals (go_end0;exact ⟨rfl,rfl⟩)
theorem aP6 {Q:World->Prop} (b off:Nat) (pl:Value) (w:World) (h0:w.cell? ⟨b,off,none⟩=some (.int .u32 0)) (h1:w.cell? ⟨b,off+1,none⟩=some (.int .i32 0)) (f1:w.frozen? ⟨b,off+1,none⟩=false)
 (hC:Calls Tryz.prog 156 #[pl] (w.setCell ⟨b,off+1,none⟩ (.int .i32 1)) fun e w'=>e = .returned (.tuple #[])/\(w'.cell? ⟨b,off,none⟩=some (.int .u32 0)/\w'.cell? ⟨b,off+1,none⟩=some (.int .i32 1)/\w'.frozen? ⟨b,off,none⟩=false/\w'.frozen? ⟨b,off+1,none⟩=false)/\Q w') :
 Calls Tryz.prog 205 #[.pointer (some ⟨b,off,none⟩),.func (.func 156) #[pl] #[]] w fun e w''=>e = .returned (.tuple #[]) /\ ∃ w',Q w'/\w''=(w'.drew.setCell ⟨b,off,none⟩ (.int .u32 1)).setCell ⟨b,off+1,none⟩ (.int .i32 0):=by
 have hl:=run_call_load (P:=Tryz.prog) Tryz.func251 (by kernel_rfl) (by kernel_rfl) (by kernel_rfl) .u32 (by kernel_rfl) (w:=w.setCell ⟨b,off+1,none⟩ (.int .i32 1)) (a:=⟨b,off,none⟩) (x:=0) ((World.cell?_setCell_other _ ⟨b,off+1,none⟩ ⟨b,off,none⟩ _ (by simp)).trans h0)
 have hnot : ∀ (x:Bool) (w:World),(Op.unary .not (.bool x)).run Tryz.prog w = .ok (.bool (!x)) w:=fun _ _=>rfl
 go_enter_defers Tryz.func205,Tryz.ntmps205
 go_wp2_with (first |(go_at_call 88;refine (lock_free Tryz.Wl ⟨b,off+1,none⟩ _ h1 f1).mono ?_;rintro e w' ⟨rfl,rfl⟩)|(go_at_call 204;go_in)|(go_at_call 156;refine hC.mono ?_;rintro e w' ⟨rfl,⟨e0,e1,z0,z1⟩,hQ⟩))
 refine leaves_cons (f:=252) (args:= #[.pointer (some ⟨b,off,none⟩),.bool true]) (by simp) (by simp [go_sem]) ?_
 refine (aCY ⟨b,off,none⟩ (.int .u32 0) .returning _ e0 z0).mono ?_
 rintro e u' w'' ⟨rfl,rfl,rfl⟩
 refine leaves_cons (f:=93) (args:= #[.pointer (some ⟨b,off+1,none⟩)]) (by simp [settle]) (by simp [go_sem]) ?_
 refine (unlock_deferred Tryz.Wl ⟨b,off+1,none⟩ _ _ ?_ (by simp [z1])).mono ?_
 ·refine (World.cell?_setCell_other _ ⟨b,off,none⟩ ⟨b,off+1,none⟩ _ (by simp)).trans ?_
  rw [World.cell?_drew]
  exact e1
 rintro e u' w3 ⟨rfl,rfl,rfl⟩
 exact ⟨_,results_none rfl _ _ _,rfl,_,hQ,rfl⟩
theorem aFm (a:Addr) (d:Int) (hd : ¬ d=0) (fv:Value) (w:World) (h0:w.cell? a=some (.int .u32 d)) :
 Calls Tryz.prog 155 #[.pointer (some a),fv] w fun e w'=>e = .returned (.tuple #[])/\w'=w:=by
 have hl:=run_call_load (P:=Tryz.prog) Tryz.func251 (by kernel_rfl) (by kernel_rfl) (by kernel_rfl) .u32 (by kernel_rfl) h0
 have hnot : ∀ (x:Bool) (w:World),(Op.unary .not (.bool x)).run Tryz.prog w = .ok (.bool (!x)) w:=fun _ _=>rfl
 have hd':(d != 0)=true:=by simp [hd]
 go_enter Tryz.func155,Tryz.ntmps155
 go_wp2
 go_end0
 exact ⟨rfl,rfl⟩
theorem aOE {Q:World->Prop} (b off:Nat) (pl:Value) (w:World) (h0:w.cell? ⟨b,off,none⟩=some (.int .u32 0)) (h1:w.cell? ⟨b,off+1,none⟩=some (.int .i32 0)) (f1:w.frozen? ⟨b,off+1,none⟩=false)
 (hC:Calls Tryz.prog 156 #[pl] (w.setCell ⟨b,off+1,none⟩ (.int .i32 1)) fun e w'=>e = .returned (.tuple #[])/\(w'.cell? ⟨b,off,none⟩=some (.int .u32 0)/\w'.cell? ⟨b,off+1,none⟩=some (.int .i32 1)/\w'.frozen? ⟨b,off,none⟩=false/\w'.frozen? ⟨b,off+1,none⟩=false)/\Q w') :
 Calls Tryz.prog 155 #[.pointer (some ⟨b,off,none⟩),.func (.func 156) #[pl] #[]] w fun e w''=>e = .returned (.tuple #[]) /\ ∃ w',Q w'/\w''=(w'.drew.setCell ⟨b,off,none⟩ (.int .u32 1)).setCell ⟨b,off+1,none⟩ (.int .i32 0):=by
 have hl:=run_call_load (P:=Tryz.prog) Tryz.func251 (by kernel_rfl) (by kernel_rfl) (by kernel_rfl) .u32 (by kernel_rfl) h0
 have hnot : ∀ (x:Bool) (w:World),(Op.unary .not (.bool x)).run Tryz.prog w = .ok (.bool (!x)) w:=fun _ _=>rfl
 go_enter Tryz.func155,Tryz.ntmps155
 go_wp2_with (first |(go_at_call 205;refine (aP6 b off pl _ h0 h1 f1 hC).mono ?_;rintro e w' ⟨rfl,hw⟩)|(go_at_call 204;go_in))
 go_end0
 exact ⟨rfl,hw⟩
theorem aQX (a:Addr) (x y:Int) (w:World) (hc:w.cell? a=some (.int .i64 x)) (hz:w.frozen? a=false) :
 Calls Tryz.prog 30 #[.pointer (some a),.int .i64 y] w fun e w'=>e = .returned (.int .i64 (IntKind.i64.wrap (x+y)))/\w'=w.setCell a (.int .i64 (IntKind.i64.wrap (x+y))):=by
 have hadd:=run_call_add (P:=Tryz.prog) Tryz.func54 (by kernel_rfl) (by kernel_rfl) (by kernel_rfl) .i64 (by kernel_rfl) (y:=y) (s:=IntKind.i64.wrap (x+y)) hc hz (by simp [go_sem])
 go_enter Tryz.func30,Tryz.ntmps30
 go_wp2
 go_ret
 have hw:wrap64 (x+y)=IntKind.i64.wrap (x+y):=by simp only [wrap64,IntKind.wrap_i64]
 rw [hw]
 exact ⟨rfl,rfl⟩
end Go.Proofs.YtfcbohachbeamaaGreatDoor.E
end
section
namespace Go.Proofs
open Go.Shelf
def Tryz.aAZ:Go.Shelf.Ren:=⟨fun | 156=>153 | 165=>200 | 166=>201 | 169=>202 | 240=>248 | 241=>249 | 276=>268 | 277=>269 | n=>n,fun | 31=>109 | 9=>9 | 3=>3 | 4=>4 | 0=>0 | 20=>20 | 72=>292 | 76=>296 | 70=>290 | 37=>35 | 75=>295 | 127=>320 | 164=>148 | 5=>5 | 80=>298 | n=>n,fun | n=>n⟩
theorem Tryz.aQA:Go.Proofs.Lays.n156 Tryz.prog Tryz.aAZ:= {
 mixed:=by kernel_rfl
 f156:=Tryz.func153.trans (congrArg some (by kernel_rfl))
 f165:=Tryz.func200.trans (congrArg some (by kernel_rfl))
 f166:=Tryz.func201.trans (congrArg some (by kernel_rfl))
 f169:=Tryz.func202.trans (congrArg some (by kernel_rfl))
 f240:=Tryz.func248.trans (congrArg some (by kernel_rfl))
 f241:=Tryz.func249.trans (congrArg some (by kernel_rfl))
 f276:=Tryz.func268.trans (congrArg some (by kernel_rfl))
 f277:=Tryz.func269.trans (congrArg some (by kernel_rfl))
 t0:=Tryz.underlying0
 a0:=Tryz.isAgg0
 z0:=Tryz.sizeOf0
 v0:=Tryz.zeroValue0
 t3:=Tryz.underlying3
 a3:=Tryz.isAgg3
 z3:=Tryz.sizeOf3
 v3:=Tryz.zeroValue3
 t4:=Tryz.underlying4
 a4:=Tryz.isAgg4
 z4:=Tryz.sizeOf4
 v4:=Tryz.zeroValue4
 t9:=Tryz.underlying9
 a9:=Tryz.isAgg9
 z9:=Tryz.sizeOf9
 v9:=Tryz.zeroValue9
 t20:=Tryz.underlying20
 a20:=Tryz.isAgg20
 z20:=Tryz.sizeOf20
 v20:=Tryz.zeroValue20
 t31:=Tryz.underlying109
 a31:=Tryz.isAgg109
 z31:=Tryz.sizeOf109
 v31:=Tryz.zeroValue109
 t37:=Tryz.underlying35
 a37:=Tryz.isAgg35
 z37:=Tryz.sizeOf35
 v37:=Tryz.zeroValue35
 t70:=Tryz.underlying290
 a70:=Tryz.isAgg290
 z70:=Tryz.sizeOf290
 v70:=Tryz.zeroValue290
 t72:=Tryz.underlying292
 a72:=Tryz.isAgg292
 z72:=Tryz.sizeOf292
 v72:=Tryz.zeroValue292
 t75:=Tryz.underlying295
 a75:=Tryz.isAgg295
 z75:=Tryz.sizeOf295
 v75:=Tryz.zeroValue295
 t76:=Tryz.underlying296
 a76:=Tryz.isAgg296
 z76:=Tryz.sizeOf296
 v76:=Tryz.zeroValue296
 t127:=Tryz.underlying320
 a127:=Tryz.isAgg320
 z127:=Tryz.sizeOf320
 v127:=Tryz.zeroValue320
 t164:=Tryz.underlying148
 a164:=Tryz.isAgg148
 z164:=Tryz.sizeOf148
 v164:=Tryz.zeroValue148 }
theorem Tryz.aIN:Builder.Extra Tryz.prog Tryz.aAZ:= {
 sizeBuilder:=by kernel_rfl
 liesBuilder:=by kernel_rfl
 t5:=Tryz.underlying5
 a5:=Tryz.isAgg5
 z5:=Tryz.sizeOf5
 v5:=Tryz.zeroValue5
 infoByte:=by kernel_rfl
 cellsByte:=by kernel_rfl
 sizeByte:=by kernel_rfl
 neB5:=by decide }
open Go.RowKit in
theorem Tryz.strings_Join (bk o c:Nat) (xs:List ByteArray) (sep:ByteArray) (w:World) (hcells : ∀ (j:Nat) x,xs[j]? = some x->w.cell? ⟨bk,o+j,none⟩=some (.string x)) (hbk:bk<w.heap.size) (hN:xs.length<=140737488355328) (hcap:xs.length<=c) (hlen:(Lib.join (xs.map (·.data.toList)) sep.data.toList).length<=140737488355328) :
 Calls Tryz.prog 153 #[.slice (some ⟨bk,o,none⟩) xs.length c,.string sep] w fun e w'=>e = .returned (.string ⟨(Lib.join (xs.map (·.data.toList)) sep.data.toList).toArray⟩)/\Below w.heap.size w w':=Any.strings_Join Tryz.aQA Tryz.aIN bk o c xs sep w hcells hbk hN hcap hlen
def Tryz.aPG:Go.Shelf.Ren:=⟨fun | 161=>242 | 231=>261 | 227=>262 | 233=>263 | 235=>264 | 228=>276 | 197=>277 | 151=>278 | 260=>291 | 152=>292 | 137=>300 | 119=>301 | 224=>240 | 225=>239 | 217=>238 | 266=>259 | n=>n,fun | 9=>9 | 4=>4 | 3=>3 | 5=>5 | 117=>335 | 116=>334 | 0=>0 | 124=>338 | 105=>347 | 21=>21 | 119=>372 | 46=>119 | 139=>375 | 138=>374 | n=>n,fun | 3=>6 | 4=>7 | n=>n⟩
theorem Tryz.aDg:Go.Proofs.Lays.n161 Tryz.prog Tryz.aPG:= {
 mixed:=by kernel_rfl
 f119:=Tryz.func301.trans (congrArg some (by kernel_rfl))
 f137:=Tryz.func300.trans (congrArg some (by kernel_rfl))
 f151:=Tryz.func278.trans (congrArg some (by kernel_rfl))
 f152:=Tryz.func292.trans (congrArg some (by kernel_rfl))
 f161:=Tryz.func242.trans (congrArg some (by kernel_rfl))
 f197:=Tryz.func277.trans (congrArg some (by kernel_rfl))
 f217:=Tryz.func238.trans (congrArg some (by kernel_rfl))
 f224:=Tryz.func240.trans (congrArg some (by kernel_rfl))
 f225:=Tryz.func239.trans (congrArg some (by kernel_rfl))
 f227:=Tryz.func262.trans (congrArg some (by kernel_rfl))
 f228:=Tryz.func276.trans (congrArg some (by kernel_rfl))
 f231:=Tryz.func261.trans (congrArg some (by kernel_rfl))
 f233:=Tryz.func263.trans (congrArg some (by kernel_rfl))
 f235:=Tryz.func264.trans (congrArg some (by kernel_rfl))
 f260:=Tryz.func291.trans (congrArg some (by kernel_rfl))
 f266:=Tryz.func259.trans (congrArg some (by kernel_rfl))
 t0:=Tryz.underlying0
 a0:=Tryz.isAgg0
 z0:=Tryz.sizeOf0
 v0:=Tryz.zeroValue0
 t3:=Tryz.underlying3
 a3:=Tryz.isAgg3
 z3:=Tryz.sizeOf3
 v3:=Tryz.zeroValue3
 t4:=Tryz.underlying4
 a4:=Tryz.isAgg4
 z4:=Tryz.sizeOf4
 v4:=Tryz.zeroValue4
 t5:=Tryz.underlying5
 a5:=Tryz.isAgg5
 z5:=Tryz.sizeOf5
 v5:=Tryz.zeroValue5
 t9:=Tryz.underlying9
 a9:=Tryz.isAgg9
 z9:=Tryz.sizeOf9
 v9:=Tryz.zeroValue9
 t21:=Tryz.underlying21
 a21:=Tryz.isAgg21
 z21:=Tryz.sizeOf21
 v21:=Tryz.zeroValue21
 t46:=Tryz.underlying119
 a46:=Tryz.isAgg119
 z46:=Tryz.sizeOf119
 v46:=Tryz.zeroValue119
 t105:=Tryz.underlying347
 a105:=Tryz.isAgg347
 z105:=Tryz.sizeOf347
 v105:=Tryz.zeroValue347
 t116:=Tryz.underlying334
 a116:=Tryz.isAgg334
 z116:=Tryz.sizeOf334
 t117:=Tryz.underlying335
 a117:=Tryz.isAgg335
 z117:=Tryz.sizeOf335
 v117:=Tryz.zeroValue335
 t119:=Tryz.underlying372
 a119:=Tryz.isAgg372
 z119:=Tryz.sizeOf372
 t124:=Tryz.underlying338
 a124:=Tryz.isAgg338
 z124:=Tryz.sizeOf338
 v124:=Tryz.zeroValue338
 t138:=Tryz.underlying374
 a138:=Tryz.isAgg374
 z138:=Tryz.sizeOf374
 v138:=Tryz.zeroValue374
 t139:=Tryz.underlying375
 a139:=Tryz.isAgg375
 z139:=Tryz.sizeOf375
 v139:=Tryz.zeroValue375
 g3:=by kernel_rfl
 g4:=by kernel_rfl }
def Tryz.aEd:Go.Shelf.Ren:=⟨fun | 134=>290 | 129=>296 | n=>n,fun | 53=>25 | 3=>3 | 4=>4 | 46=>119 | 5=>5 | 9=>9 | n=>n,fun | n=>n⟩
theorem Tryz.aCU:Go.Proofs.Lays.n134 Tryz.prog Tryz.aEd:= {
 mixed:=by kernel_rfl
 f129:=Tryz.func296.trans (congrArg some (by kernel_rfl))
 f134:=Tryz.func290.trans (congrArg some (by kernel_rfl))
 t3:=Tryz.underlying3
 a3:=Tryz.isAgg3
 z3:=Tryz.sizeOf3
 v3:=Tryz.zeroValue3
 t4:=Tryz.underlying4
 a4:=Tryz.isAgg4
 z4:=Tryz.sizeOf4
 v4:=Tryz.zeroValue4
 t5:=Tryz.underlying5
 a5:=Tryz.isAgg5
 z5:=Tryz.sizeOf5
 v5:=Tryz.zeroValue5
 t9:=Tryz.underlying9
 a9:=Tryz.isAgg9
 z9:=Tryz.sizeOf9
 v9:=Tryz.zeroValue9
 t46:=Tryz.underlying119
 a46:=Tryz.isAgg119
 z46:=Tryz.sizeOf119
 v46:=Tryz.zeroValue119
 t53:=Tryz.underlying25
 a53:=Tryz.isAgg25
 z53:=Tryz.sizeOf25
 v53:=Tryz.zeroValue25 }
theorem Tryz.bits_LeadingZeros64 (x:Int) (w:World) (h0:0<=x) (h1:x<=0xffffffffffffffff) :
 Calls Tryz.prog 290 #[.int .u64 x] w fun e w'=>e = .returned (.int .i64 (64-(Lib.bitLen x.toNat:Int)))/\w'=w:=Any.bits_LeadingZeros64 Tryz.aCU x w h0 h1
def Tryz.aEB:Go.Shelf.Ren:=⟨fun | 172=>245 | 244=>265 | 245=>266 | 247=>279 | 279=>280 | 280=>281 | 281=>282 | 282=>283 | 287=>267 | 316=>293 | 171=>203 | 205=>294 | 321=>284 | 322=>285 | 243=>250 | 246=>270 | 283=>286 | 284=>287 | 285=>288 | 286=>289 | 129=>296 | 317=>295 | 318=>297 | 319=>298 | 320=>299 | 337=>302 | 338=>303 | n=>n,fun | 9=>9 | 3=>3 | 75=>295 | 76=>296 | 4=>4 | 5=>5 | 167=>350 | 37=>35 | 0=>0 | 85=>351 | 2=>2 | 168=>353 | 53=>25 | 175=>318 | 46=>119 | 210=>366 | 127=>320 | 145=>379 | 143=>377 | 21=>21 | 171=>358 | 173=>361 | 212=>369 | 51=>75 | 20=>20 | 213=>370 | 232=>381 | 233=>382 | 80=>298 | n=>n,fun | 15=>3 | 16=>4 | 17=>5 | 18=>8 | 19=>9 | n=>n⟩
theorem Tryz.aDn:Go.Proofs.Lays.n172 Tryz.prog Tryz.aEB:= {
 mixed:=by kernel_rfl
 f129:=Tryz.func296.trans (congrArg some (by kernel_rfl))
 f171:=Tryz.func203.trans (congrArg some (by kernel_rfl))
 f172:=Tryz.func245.trans (congrArg some (by kernel_rfl))
 f205:=Tryz.func294.trans (congrArg some (by kernel_rfl))
 f243:=Tryz.func250.trans (congrArg some (by kernel_rfl))
 f244:=Tryz.func265.trans (congrArg some (by kernel_rfl))
 f245:=Tryz.func266.trans (congrArg some (by kernel_rfl))
 f246:=Tryz.func270.trans (congrArg some (by kernel_rfl))
 f247:=Tryz.func279.trans (congrArg some (by kernel_rfl))
 f279:=Tryz.func280.trans (congrArg some (by kernel_rfl))
 f280:=Tryz.func281.trans (congrArg some (by kernel_rfl))
 f281:=Tryz.func282.trans (congrArg some (by kernel_rfl))
 f282:=Tryz.func283.trans (congrArg some (by kernel_rfl))
 f283:=Tryz.func286.trans (congrArg some (by kernel_rfl))
 f284:=Tryz.func287.trans (congrArg some (by kernel_rfl))
 f285:=Tryz.func288.trans (congrArg some (by kernel_rfl))
 f286:=Tryz.func289.trans (congrArg some (by kernel_rfl))
 f287:=Tryz.func267.trans (congrArg some (by kernel_rfl))
 f316:=Tryz.func293.trans (congrArg some (by kernel_rfl))
 f317:=Tryz.func295.trans (congrArg some (by kernel_rfl))
 f318:=Tryz.func297.trans (congrArg some (by kernel_rfl))
 f319:=Tryz.func298.trans (congrArg some (by kernel_rfl))
 f320:=Tryz.func299.trans (congrArg some (by kernel_rfl))
 f321:=Tryz.func284.trans (congrArg some (by kernel_rfl))
 f322:=Tryz.func285.trans (congrArg some (by kernel_rfl))
 f337:=Tryz.func302.trans (congrArg some (by kernel_rfl))
 f338:=Tryz.func303.trans (congrArg some (by kernel_rfl))
 t0:=Tryz.underlying0
 a0:=Tryz.isAgg0
 z0:=Tryz.sizeOf0
 v0:=Tryz.zeroValue0
 t2:=Tryz.underlying2
 a2:=Tryz.isAgg2
 z2:=Tryz.sizeOf2
 v2:=Tryz.zeroValue2
 t3:=Tryz.underlying3
 a3:=Tryz.isAgg3
 z3:=Tryz.sizeOf3
 v3:=Tryz.zeroValue3
 t4:=Tryz.underlying4
 a4:=Tryz.isAgg4
 z4:=Tryz.sizeOf4
 v4:=Tryz.zeroValue4
 t5:=Tryz.underlying5
 a5:=Tryz.isAgg5
 z5:=Tryz.sizeOf5
 v5:=Tryz.zeroValue5
 t9:=Tryz.underlying9
 a9:=Tryz.isAgg9
 z9:=Tryz.sizeOf9
 v9:=Tryz.zeroValue9
 t20:=Tryz.underlying20
 a20:=Tryz.isAgg20
 z20:=Tryz.sizeOf20
 v20:=Tryz.zeroValue20
 t21:=Tryz.underlying21
 a21:=Tryz.isAgg21
 z21:=Tryz.sizeOf21
 v21:=Tryz.zeroValue21
 t37:=Tryz.underlying35
 a37:=Tryz.isAgg35
 z37:=Tryz.sizeOf35
 v37:=Tryz.zeroValue35
 t46:=Tryz.underlying119
 a46:=Tryz.isAgg119
 z46:=Tryz.sizeOf119
 v46:=Tryz.zeroValue119
 t51:=Tryz.underlying75
 a51:=Tryz.isAgg75
 z51:=Tryz.sizeOf75
 v51:=Tryz.zeroValue75
 t53:=Tryz.underlying25
 a53:=Tryz.isAgg25
 z53:=Tryz.sizeOf25
 v53:=Tryz.zeroValue25
 t75:=Tryz.underlying295
 a75:=Tryz.isAgg295
 z75:=Tryz.sizeOf295
 v75:=Tryz.zeroValue295
 t76:=Tryz.underlying296
 a76:=Tryz.isAgg296
 z76:=Tryz.sizeOf296
 v76:=Tryz.zeroValue296
 t85:=Tryz.underlying351
 a85:=Tryz.isAgg351
 z85:=Tryz.sizeOf351
 v85:=Tryz.zeroValue351
 t127:=Tryz.underlying320
 a127:=Tryz.isAgg320
 z127:=Tryz.sizeOf320
 v127:=Tryz.zeroValue320
 t143:=Tryz.underlying377
 a143:=Tryz.isAgg377
 z143:=Tryz.sizeOf377
 v143:=Tryz.zeroValue377
 t145:=Tryz.underlying379
 a145:=Tryz.isAgg379
 z145:=Tryz.sizeOf379
 v145:=Tryz.zeroValue379
 t167:=Tryz.underlying350
 a167:=Tryz.isAgg350
 z167:=Tryz.sizeOf350
 v167:=Tryz.zeroValue350
 t168:=Tryz.underlying353
 a168:=Tryz.isAgg353
 z168:=Tryz.sizeOf353
 v168:=Tryz.zeroValue353
 t171:=Tryz.underlying358
 a171:=Tryz.isAgg358
 z171:=Tryz.sizeOf358
 v171:=Tryz.zeroValue358
 t173:=Tryz.underlying361
 a173:=Tryz.isAgg361
 z173:=Tryz.sizeOf361
 v173:=Tryz.zeroValue361
 t175:=Tryz.underlying318
 a175:=Tryz.isAgg318
 z175:=Tryz.sizeOf318
 v175:=Tryz.zeroValue318
 t210:=Tryz.underlying366
 a210:=Tryz.isAgg366
 z210:=Tryz.sizeOf366
 v210:=Tryz.zeroValue366
 t212:=Tryz.underlying369
 a212:=Tryz.isAgg369
 z212:=Tryz.sizeOf369
 v212:=Tryz.zeroValue369
 t213:=Tryz.underlying370
 a213:=Tryz.isAgg370
 z213:=Tryz.sizeOf370
 t232:=Tryz.underlying381
 a232:=Tryz.isAgg381
 z232:=Tryz.sizeOf381
 v232:=Tryz.zeroValue381
 t233:=Tryz.underlying382
 a233:=Tryz.isAgg382
 z233:=Tryz.sizeOf382
 v233:=Tryz.zeroValue382
 g15:=by kernel_rfl
 g16:=by kernel_rfl
 g17:=by kernel_rfl
 g18:=by kernel_rfl
 g19:=by kernel_rfl }
open Go.RowKit in
theorem Tryz.strconv_Atoi (s:ByteArray) (n:Int) (hl:s.size<=18) (h:Lib.atoi s.data.toList=some n) (w:World) :
 Calls Tryz.prog 245 #[.string s] w fun e w'=>e = .returned (.tuple #[.int .i64 n,.nilIface]) /\ ∃ t,w'=Lib.bytesWorld w 5 t:=Any.strconv_Atoi Tryz.aDn s n hl h w
def Tryz.aJp:Go.Shelf.Ren:=⟨fun | 171=>203 | 243=>250 | 246=>270 | 283=>286 | 284=>287 | 285=>288 | 286=>289 | 129=>296 | 317=>295 | 318=>297 | 319=>298 | 320=>299 | 337=>302 | 338=>303 | n=>n,fun | 3=>3 | 9=>9 | 2=>2 | 4=>4 | 171=>358 | 0=>0 | 53=>25 | 37=>35 | 5=>5 | 173=>361 | 212=>369 | 51=>75 | 20=>20 | 213=>370 | 46=>119 | 232=>381 | 233=>382 | n=>n,fun | 17=>5 | 18=>8 | 19=>9 | n=>n⟩
theorem Tryz.aQ3:Go.Proofs.LaysM.n171 Tryz.prog Tryz.aJp:= {
 mixed:=by kernel_rfl
 f129:=Tryz.func296.trans (congrArg some (by kernel_rfl))
 f171:=Tryz.func203.trans (congrArg some (by kernel_rfl))
 f243:=Tryz.func250.trans (congrArg some (by kernel_rfl))
 f246:=Tryz.func270.trans (congrArg some (by kernel_rfl))
 f283:=Tryz.func286.trans (congrArg some (by kernel_rfl))
 f284:=Tryz.func287.trans (congrArg some (by kernel_rfl))
 f285:=Tryz.func288.trans (congrArg some (by kernel_rfl))
 f286:=Tryz.func289.trans (congrArg some (by kernel_rfl))
 f317:=Tryz.func295.trans (congrArg some (by kernel_rfl))
 f318:=Tryz.func297.trans (congrArg some (by kernel_rfl))
 f319:=Tryz.func298.trans (congrArg some (by kernel_rfl))
 f320:=Tryz.func299.trans (congrArg some (by kernel_rfl))
 f337:=Tryz.func302.trans (congrArg some (by kernel_rfl))
 f338:=Tryz.func303.trans (congrArg some (by kernel_rfl))
 t0:=Tryz.underlying0
 a0:=Tryz.isAgg0
 z0:=Tryz.sizeOf0
 v0:=Tryz.zeroValue0
 t2:=Tryz.underlying2
 a2:=Tryz.isAgg2
 z2:=Tryz.sizeOf2
 v2:=Tryz.zeroValue2
 t3:=Tryz.underlying3
 a3:=Tryz.isAgg3
 z3:=Tryz.sizeOf3
 v3:=Tryz.zeroValue3
 t4:=Tryz.underlying4
 a4:=Tryz.isAgg4
 z4:=Tryz.sizeOf4
 v4:=Tryz.zeroValue4
 t5:=Tryz.underlying5
 a5:=Tryz.isAgg5
 z5:=Tryz.sizeOf5
 v5:=Tryz.zeroValue5
 t9:=Tryz.underlying9
 a9:=Tryz.isAgg9
 z9:=Tryz.sizeOf9
 v9:=Tryz.zeroValue9
 t20:=Tryz.underlying20
 a20:=Tryz.isAgg20
 z20:=Tryz.sizeOf20
 v20:=Tryz.zeroValue20
 t37:=Tryz.underlying35
 a37:=Tryz.isAgg35
 z37:=Tryz.sizeOf35
 v37:=Tryz.zeroValue35
 t46:=Tryz.underlying119
 a46:=Tryz.isAgg119
 z46:=Tryz.sizeOf119
 v46:=Tryz.zeroValue119
 t51:=Tryz.underlying75
 a51:=Tryz.isAgg75
 z51:=Tryz.sizeOf75
 v51:=Tryz.zeroValue75
 t53:=Tryz.underlying25
 a53:=Tryz.isAgg25
 z53:=Tryz.sizeOf25
 v53:=Tryz.zeroValue25
 t171:=Tryz.underlying358
 a171:=Tryz.isAgg358
 z171:=Tryz.sizeOf358
 v171:=Tryz.zeroValue358
 t173:=Tryz.underlying361
 a173:=Tryz.isAgg361
 z173:=Tryz.sizeOf361
 v173:=Tryz.zeroValue361
 t212:=Tryz.underlying369
 a212:=Tryz.isAgg369
 z212:=Tryz.sizeOf369
 v212:=Tryz.zeroValue369
 t213:=Tryz.underlying370
 a213:=Tryz.isAgg370
 z213:=Tryz.sizeOf370
 t232:=Tryz.underlying381
 a232:=Tryz.isAgg381
 z232:=Tryz.sizeOf381
 v232:=Tryz.zeroValue381
 t233:=Tryz.underlying382
 a233:=Tryz.isAgg382
 z233:=Tryz.sizeOf382
 v233:=Tryz.zeroValue382
 g17:=by kernel_rfl
 g18:=by kernel_rfl
 g19:=by kernel_rfl
 i0:=by kernel_rfl
 i2:=by kernel_rfl
 i3:=by kernel_rfl
 i4:=by kernel_rfl
 i5:=by kernel_rfl
 i9:=by kernel_rfl
 i20:=by kernel_rfl
 i37:=by kernel_rfl
 i46:=by kernel_rfl
 i51:=by kernel_rfl
 i53:=by kernel_rfl
 i171:=by kernel_rfl
 i173:=by kernel_rfl
 i212:=by kernel_rfl
 i232:=by kernel_rfl
 i233:=by kernel_rfl
 m17:=by kernel_rfl
 m18:=by kernel_rfl
 m19:=by kernel_rfl }
open Go.RowKit Go.Sort Go.Lib in
theorem Tryz.strconv_Itoa (n:Int) (h0 : -0x8000000000000000<=n) (h1:n<=0x7fffffffffffffff) (w:World) (htab:Lib.TabIs Tryz.prog w "internal/strconv.uint64pow10" .u64 Lib.pow10Tab) :
 Calls Tryz.prog 203 #[.int .i64 n] w fun e w'=>e = .returned (.string ⟨(Lib.itoa n).toArray⟩) /\ ∃ k os,w'=grow (w.drewN k) os:=Any.strconv_Itoa Tryz.aQ3 n h0 h1 w htab
def Tryz.aDL:Go.Shelf.Ren:=⟨fun | 145=>112 | 220=>142 | 219=>191 | 217=>238 | 225=>239 | 224=>240 | 267=>241 | 266=>259 | 314=>260 | n=>n,fun | 9=>9 | 4=>4 | 59=>197 | 3=>3 | 5=>5 | 46=>119 | 146=>330 | 51=>75 | n=>n,fun | 1=>0 | n=>n⟩
theorem Tryz.aMx:Go.Proofs.Lays.n145 Tryz.prog Tryz.aDL:= {
 mixed:=by kernel_rfl
 f145:=Tryz.func112.trans (congrArg some (by kernel_rfl))
 f217:=Tryz.func238.trans (congrArg some (by kernel_rfl))
 f219:=Tryz.func191.trans (congrArg some (by kernel_rfl))
 f220:=Tryz.func142.trans (congrArg some (by kernel_rfl))
 f224:=Tryz.func240.trans (congrArg some (by kernel_rfl))
 f225:=Tryz.func239.trans (congrArg some (by kernel_rfl))
 f266:=Tryz.func259.trans (congrArg some (by kernel_rfl))
 f267:=Tryz.func241.trans (congrArg some (by kernel_rfl))
 f314:=Tryz.func260.trans (congrArg some (by kernel_rfl))
 t3:=Tryz.underlying3
 a3:=Tryz.isAgg3
 z3:=Tryz.sizeOf3
 v3:=Tryz.zeroValue3
 t4:=Tryz.underlying4
 a4:=Tryz.isAgg4
 z4:=Tryz.sizeOf4
 v4:=Tryz.zeroValue4
 t5:=Tryz.underlying5
 a5:=Tryz.isAgg5
 z5:=Tryz.sizeOf5
 v5:=Tryz.zeroValue5
 t9:=Tryz.underlying9
 a9:=Tryz.isAgg9
 z9:=Tryz.sizeOf9
 v9:=Tryz.zeroValue9
 t46:=Tryz.underlying119
 a46:=Tryz.isAgg119
 z46:=Tryz.sizeOf119
 v46:=Tryz.zeroValue119
 t51:=Tryz.underlying75
 a51:=Tryz.isAgg75
 z51:=Tryz.sizeOf75
 v51:=Tryz.zeroValue75
 t59:=Tryz.underlying197
 a59:=Tryz.isAgg197
 z59:=Tryz.sizeOf197
 v59:=Tryz.zeroValue197
 t146:=Tryz.underlying330
 a146:=Tryz.isAgg330
 z146:=Tryz.sizeOf330
 v146:=Tryz.zeroValue330
 g1:=by kernel_rfl }
open Go.RowKit Go.Lib in
theorem Tryz.strings_Cut (s sep:ByteArray) (m:Int) (w:World) (hs:s.size<4294967281) (hm:w.cell? ⟨0,0,none⟩=some (.int .i64 m)) :
 Calls Tryz.prog 112 #[.string s,.string sep] w fun e w'=>e = .returned (.tuple #[.string ⟨(Lib.cut s.data.toList sep.data.toList).1.toArray⟩,.string ⟨(Lib.cut s.data.toList sep.data.toList).2.1.toArray⟩,.bool (Lib.cut s.data.toList sep.data.toList).2.2]) /\ ∃ n,w'=w.drewN n:=Any.strings_Cut Tryz.aMx s sep m w hs hm
def Tryz.aEj:Go.Shelf.Ren:=⟨fun | 99=>143 | 206=>192 | n=>n,fun | 9=>9 | 4=>4 | 3=>3 | n=>n,fun | n=>n⟩
theorem Tryz.aIi:Go.Proofs.Lays.n99 Tryz.prog Tryz.aEj:= {
 mixed:=by kernel_rfl
 f99:=Tryz.func143.trans (congrArg some (by kernel_rfl))
 f206:=Tryz.func192.trans (congrArg some (by kernel_rfl))
 t3:=Tryz.underlying3
 a3:=Tryz.isAgg3
 z3:=Tryz.sizeOf3
 v3:=Tryz.zeroValue3
 t4:=Tryz.underlying4
 a4:=Tryz.isAgg4
 z4:=Tryz.sizeOf4
 v4:=Tryz.zeroValue4
 t9:=Tryz.underlying9
 a9:=Tryz.isAgg9
 z9:=Tryz.sizeOf9
 v9:=Tryz.zeroValue9 }
open Go.RowKit Go.Lib in
theorem Tryz.strings_HasPrefix (s p:ByteArray) (w:World) :
 Calls Tryz.prog 143 #[.string s,.string p] w fun e w'=>e = .returned (.bool (Lib.hasPrefix s.data.toList p.data.toList))/\w'=w:=Any.strings_HasPrefix Tryz.aIi s p w
theorem Tryz.aO3 (s cutset:ByteArray) (w:World) (hcs:cutset.size<4294967281) (hascii : ∀ (j:Nat) b,cutset.data.toList[j]? = some b->b.toNat<128) :
 Calls Tryz.prog 242 #[.string s,.string cutset] w fun e w'=>e = .returned (.string ⟨(Lib.trimLeftS s.data.toList cutset.data.toList).toArray⟩)/\RowKit.Below w.heap.size w w':=Any.strings_TrimLeft_laid Tryz.aDg (by kernel_rfl) s cutset w hcs hascii
end Go.Proofs
end
