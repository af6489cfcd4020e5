/- The compact code of the given program's functions, and that it is that code. -/
import Derived.Test.YtichmemhahbhnaaProg
import Derived.Test.YtichmemhahbhnaaVA
import Derived.KernelRfl
set_option linter.unusedVariables false
set_option maxRecDepth 100000
namespace Go.Proofs.Ytichmemhahbhnaa.E
open Go.VC
/-- epact/epactlaw01.LimbMuls -/
def epactlaw01_LimbMuls.c : SF := ⟨25, [.t 4],
  (.seq (.region [⟨(some 2), .box (.t 0), none⟩, ⟨(some 3), .box (.t 1), none⟩, ⟨(some 4), .mv (.k (.bool false)), none⟩])
  (.seq (.region [⟨(some 8), .load true 2 (.t 2) (some 2), none⟩, ⟨(some 9), .load true 2 (.t 3) (some 3), none⟩, ⟨(some 10), .call 17 [(.t 8), (.t 9)], none⟩, ⟨(some 7), .mv (.t 10), none⟩, ⟨(some 11), .ext (.t 7) 0, none⟩, ⟨(some 12), .ext (.t 7) 1, none⟩, ⟨(some 5), .alloc [.v (.int .u64 0), .v (.int .u64 0)], none⟩, ⟨(some 6), .alloc [.v (.int .u64 0), .v (.int .u64 0)], none⟩, ⟨none, .store 2 (.t 5) (.t 11) 5, none⟩, ⟨none, .store 2 (.t 6) (.t 12) 6, none⟩])
  (.seq (.region [⟨(some 13), .call 18 [], none⟩, ⟨(some 14), .mv (.t 13), none⟩, ⟨(some 15), .load true 2 (.t 5) (some 5), (some (14, true))⟩, ⟨(some 16), .load true 2 (.t 6) (some 6), (some (14, true))⟩, ⟨(some 17), .call 20 [(.t 15), (.t 16)], (some (14, true))⟩, ⟨(some 18), .load true 2 (.t 2) (some 2), (some (14, true))⟩, ⟨(some 19), .call 22 [(.t 18)], (some (14, true))⟩, ⟨(some 20), .load true 2 (.t 3) (some 3), (some (14, true))⟩, ⟨(some 21), .call 22 [(.t 20)], (some (14, true))⟩, ⟨(some 22), .call 21 [(.t 19), (.t 21)], (some (14, true))⟩, ⟨(some 23), .call 19 [(.t 17), (.t 22)], (some (14, true))⟩, ⟨(some 24), .pick (.t 14) (.t 23) (.k (.bool false)), none⟩, ⟨(some 4), .mv (.t 24), none⟩])
  .ret)))⟩
theorem epactlaw01_LimbMuls.chk : chkFn Try.prog Try.f3 epactlaw01_LimbMuls.c = true := by kernel_rfl
theorem epactlaw01_LimbMuls.ent : ∀ args w, (callFunc 3 args).run Try.prog w = .ok (.enter 3 args) w := enters Try.func3 (by kernel_rfl) (by kernel_rfl)

/-- epact/epactlaw01.LimbDivs -/
def epactlaw01_LimbDivs.c : SF := ⟨66, [.t 6],
  (.seq (.region [⟨(some 3), .box (.t 0), none⟩, ⟨(some 4), .box (.t 1), none⟩, ⟨(some 5), .box (.t 2), none⟩, ⟨(some 6), .mv (.k (.bool false)), none⟩])
  (.seq (.region [⟨(some 13), .load true 2 (.t 3) (some 3), none⟩, ⟨(some 14), .load true 2 (.t 4) (some 4), none⟩, ⟨(some 15), .load true 2 (.t 5) (some 5), none⟩, ⟨(some 16), .call 23 [(.t 13), (.t 14), (.t 15)], none⟩, ⟨(some 12), .mv (.t 16), none⟩, ⟨(some 17), .ext (.t 12) 0, none⟩, ⟨(some 18), .ext (.t 12) 1, none⟩, ⟨(some 19), .ext (.t 12) 2, none⟩, ⟨(some 7), .alloc [.v (.int .u64 0), .v (.int .u64 0)], none⟩, ⟨(some 8), .alloc [.v (.int .u64 0), .v (.int .u64 0)], none⟩, ⟨none, .store 2 (.t 7) (.t 17) 7, none⟩, ⟨none, .store 2 (.t 8) (.t 18) 8, none⟩, ⟨(some 9), .mv (.t 19), none⟩])
  (.seq (.seq (.region [⟨(some 20), .load true 2 (.t 3) (some 3), none⟩, ⟨(some 21), .call 22 [(.t 20)], none⟩, ⟨(some 22), .load true 2 (.t 5) (some 5), none⟩, ⟨(some 23), .call 22 [(.t 22)], none⟩, ⟨(some 24), .call 24 [(.t 21), (.t 23)], none⟩, ⟨(some 25), .bin .geq (.t 24) (.k (.int .i64 0)), none⟩])
  (.cond (.t 25)
  (.seq (.region [⟨(some 26), .call 18 [], none⟩, ⟨(some 27), .mv (.t 26), none⟩, ⟨(some 28), .mv (.t 9), (some (27, true))⟩, ⟨(some 29), .not (.t 28), (some (27, true))⟩, ⟨(some 30), .pick (.t 27) (.t 29) (.k (.bool false)), none⟩, ⟨(some 31), .mv (.t 30), none⟩, ⟨(some 32), .load true 2 (.t 7) (some 7), (some (31, true))⟩, ⟨(some 33), .build [.v (.int .u64 0), .v (.int .u64 0)] [], (some (31, true))⟩, ⟨(some 34), .eqs false [.u64, .u64] (.t 32) (.t 33), (some (31, true))⟩, ⟨(some 35), .pick (.t 31) (.t 34) (.k (.bool false)), none⟩, ⟨(some 36), .mv (.t 35), none⟩, ⟨(some 37), .load true 2 (.t 8) (some 8), (some (36, true))⟩, ⟨(some 38), .build [.v (.int .u64 0), .v (.int .u64 0)] [], (some (36, true))⟩, ⟨(some 39), .eqs false [.u64, .u64] (.t 37) (.t 38), (some (36, true))⟩, ⟨(some 40), .pick (.t 36) (.t 39) (.k (.bool false)), none⟩, ⟨(some 6), .mv (.t 40), none⟩])
    .ret)
  .skip))
  (.seq (.region [⟨(some 42), .load true 2 (.t 3) (some 3), none⟩, ⟨(some 43), .load true 2 (.t 4) (some 4), none⟩, ⟨(some 44), .call 20 [(.t 42), (.t 43)], none⟩, ⟨(some 45), .load true 2 (.t 5) (some 5), none⟩, ⟨(some 46), .call 22 [(.t 45)], none⟩, ⟨(some 47), .call 25 [(.t 44), (.t 46)], none⟩, ⟨(some 41), .mv (.t 47), none⟩, ⟨(some 48), .ext (.t 41) 0, none⟩, ⟨(some 49), .ext (.t 41) 1, none⟩, ⟨(some 10), .alloc [.v (.bool false), .nil .i64], none⟩, ⟨(some 11), .alloc [.v (.bool false), .nil .i64], none⟩, ⟨none, .store 2 (.t 10) (.t 48) 10, none⟩, ⟨none, .store 2 (.t 11) (.t 49) 11, none⟩])
  (.seq (.region [⟨(some 50), .call 18 [], none⟩, ⟨(some 51), .mv (.t 50), none⟩, ⟨(some 52), .mv (.t 9), (some (51, true))⟩, ⟨(some 53), .pick (.t 51) (.t 52) (.k (.bool false)), none⟩, ⟨(some 54), .mv (.t 53), none⟩, ⟨(some 55), .load true 2 (.t 7) (some 7), (some (54, true))⟩, ⟨(some 56), .call 22 [(.t 55)], (some (54, true))⟩, ⟨(some 57), .load true 2 (.t 10) (some 10), (some (54, true))⟩, ⟨(some 58), .call 19 [(.t 56), (.t 57)], (some (54, true))⟩, ⟨(some 59), .pick (.t 54) (.t 58) (.k (.bool false)), none⟩, ⟨(some 60), .mv (.t 59), none⟩, ⟨(some 61), .load true 2 (.t 8) (some 8), (some (60, true))⟩, ⟨(some 62), .call 22 [(.t 61)], (some (60, true))⟩, ⟨(some 63), .load true 2 (.t 11) (some 11), (some (60, true))⟩, ⟨(some 64), .call 19 [(.t 62), (.t 63)], (some (60, true))⟩, ⟨(some 65), .pick (.t 60) (.t 64) (.k (.bool false)), none⟩, ⟨(some 6), .mv (.t 65), none⟩])
  .ret)))))⟩
theorem epactlaw01_LimbDivs.chk : chkFn Try.prog Try.f4 epactlaw01_LimbDivs.c = true := by kernel_rfl
theorem epactlaw01_LimbDivs.ent : ∀ args w, (callFunc 4 args).run Try.prog w = .ok (.enter 4 args) w := enters Try.func4 (by kernel_rfl) (by kernel_rfl)

/-- epact/epactlaw01.LimbAdds -/
def epactlaw01_LimbAdds.c : SF := ⟨77, [.t 4],
  (.seq (.region [⟨(some 2), .box (.t 0), none⟩, ⟨(some 3), .box (.t 1), none⟩, ⟨(some 4), .mv (.k (.bool false)), none⟩])
  (.seq (.region [⟨(some 12), .load true 2 (.t 2) (some 2), none⟩, ⟨(some 13), .load true 2 (.t 3) (some 3), none⟩, ⟨(some 14), .call 26 [(.t 12), (.t 13)], none⟩, ⟨(some 11), .mv (.t 14), none⟩, ⟨(some 15), .ext (.t 11) 0, none⟩, ⟨(some 16), .ext (.t 11) 1, none⟩, ⟨(some 5), .alloc [.v (.int .u64 0), .v (.int .u64 0)], none⟩, ⟨none, .store 2 (.t 5) (.t 15) 5, none⟩, ⟨(some 6), .mv (.t 16), none⟩])
  (.seq (.region [⟨(some 18), .load true 2 (.t 2) (some 2), none⟩, ⟨(some 19), .load true 2 (.t 3) (some 3), none⟩, ⟨(some 20), .call 27 [(.t 18), (.t 19)], none⟩, ⟨(some 17), .mv (.t 20), none⟩, ⟨(some 21), .ext (.t 17) 0, none⟩, ⟨(some 22), .ext (.t 17) 1, none⟩, ⟨(some 7), .alloc [.v (.int .u64 0), .v (.int .u64 0)], none⟩, ⟨none, .store 2 (.t 7) (.t 21) 7, none⟩, ⟨(some 8), .mv (.t 22), none⟩])
  (.seq (.region [⟨(some 23), .load true 2 (.t 2) (some 2), none⟩, ⟨(some 24), .call 22 [(.t 23)], none⟩, ⟨(some 25), .load true 2 (.t 3) (some 3), none⟩, ⟨(some 26), .call 22 [(.t 25)], none⟩, ⟨(some 27), .call 28 [(.t 24), (.t 26)], none⟩, ⟨(some 28), .load true 2 (.t 2) (some 2), none⟩, ⟨(some 29), .call 22 [(.t 28)], none⟩, ⟨(some 30), .load true 2 (.t 3) (some 3), none⟩, ⟨(some 31), .call 22 [(.t 30)], none⟩, ⟨(some 32), .call 29 [(.t 29), (.t 31)], none⟩, ⟨(some 9), .alloc [.v (.bool false), .nil .i64], none⟩, ⟨(some 10), .alloc [.v (.bool false), .nil .i64], none⟩, ⟨none, .store 2 (.t 9) (.t 27) 9, none⟩, ⟨none, .store 2 (.t 10) (.t 32) 10, none⟩])
  (.seq (.seq (.region [⟨(some 33), .mv (.t 6), none⟩, ⟨(some 34), .load true 2 (.t 9) (some 9), none⟩, ⟨(some 35), .call 30 [(.k (.int .i64 128))], none⟩, ⟨(some 36), .call 24 [(.t 34), (.t 35)], none⟩, ⟨(some 37), .bin .geq (.t 36) (.k (.int .i64 0)), none⟩, ⟨(some 38), .eqb true (.t 33) (.t 37), none⟩, ⟨(some 39), .mv (.t 38), none⟩, ⟨(some 40), .mv (.t 8), (some (39, false))⟩, ⟨(some 41), .fld 0 (.t 10), (some (39, false))⟩, ⟨(some 42), .load false 1 (.t 41) (some 10), (some (39, false))⟩, ⟨(some 43), .eqb true (.t 40) (.t 42), (some (39, false))⟩, ⟨(some 44), .pick (.t 39) (.k (.bool true)) (.t 43), none⟩, ⟨(some 45), .mv (.t 44), none⟩, ⟨(some 46), .load true 2 (.t 2) (some 2), (some (45, false))⟩, ⟨(some 47), .load true 2 (.t 3) (some 3), (some (45, false))⟩, ⟨(some 48), .call 31 [(.t 46), (.t 47)], (some (45, false))⟩, ⟨(some 49), .load true 2 (.t 2) (some 2), (some (45, false))⟩, ⟨(some 50), .call 22 [(.t 49)], (some (45, false))⟩, ⟨(some 51), .load true 2 (.t 3) (some 3), (some (45, false))⟩, ⟨(some 52), .call 22 [(.t 51)], (some (45, false))⟩, ⟨(some 53), .call 24 [(.t 50), (.t 52)], (some (45, false))⟩, ⟨(some 54), .bin .neq (.t 48) (.t 53), (some (45, false))⟩, ⟨(some 55), .pick (.t 45) (.k (.bool true)) (.t 54), none⟩])
  (.cond (.t 55)
  (.seq (.region [⟨(some 4), .mv (.k (.bool false)), none⟩])
    .ret)
  .skip))
  (.seq (.seq (.region [⟨(some 56), .mv (.t 6), none⟩])
  (.cond (.t 56)
  (.region [⟨(some 57), .load true 2 (.t 9) (some 9), none⟩, ⟨(some 58), .call 30 [(.k (.int .i64 128))], none⟩, ⟨(some 59), .call 29 [(.t 57), (.t 58)], none⟩, ⟨none, .store 2 (.t 9) (.t 59) 9, none⟩])
  .skip))
  (.seq (.seq (.region [⟨(some 60), .mv (.t 8), none⟩])
  (.cond (.t 60)
  (.region [⟨(some 61), .load true 2 (.t 10) (some 10), none⟩, ⟨(some 62), .call 30 [(.k (.int .i64 128))], none⟩, ⟨(some 63), .call 28 [(.t 61), (.t 62)], none⟩, ⟨none, .store 2 (.t 10) (.t 63) 10, none⟩])
  .skip))
  (.seq (.region [⟨(some 64), .call 18 [], none⟩, ⟨(some 65), .mv (.t 64), none⟩, ⟨(some 66), .load true 2 (.t 5) (some 5), (some (65, true))⟩, ⟨(some 67), .call 22 [(.t 66)], (some (65, true))⟩, ⟨(some 68), .load true 2 (.t 9) (some 9), (some (65, true))⟩, ⟨(some 69), .call 19 [(.t 67), (.t 68)], (some (65, true))⟩, ⟨(some 70), .pick (.t 65) (.t 69) (.k (.bool false)), none⟩, ⟨(some 71), .mv (.t 70), none⟩, ⟨(some 72), .load true 2 (.t 7) (some 7), (some (71, true))⟩, ⟨(some 73), .call 22 [(.t 72)], (some (71, true))⟩, ⟨(some 74), .load true 2 (.t 10) (some 10), (some (71, true))⟩, ⟨(some 75), .call 19 [(.t 73), (.t 74)], (some (71, true))⟩, ⟨(some 76), .pick (.t 71) (.t 75) (.k (.bool false)), none⟩, ⟨(some 4), .mv (.t 76), none⟩])
  .ret))))))))⟩
theorem epactlaw01_LimbAdds.chk : chkFn Try.prog Try.f5 epactlaw01_LimbAdds.c = true := by kernel_rfl
theorem epactlaw01_LimbAdds.ent : ∀ args w, (callFunc 5 args).run Try.prog w = .ok (.enter 5 args) w := enters Try.func5 (by kernel_rfl) (by kernel_rfl)

/-- epact/epactlaw01.LimbBack -/
def epactlaw01_LimbBack.c : SF := ⟨59, [.t 6],
  (.seq (.region [⟨(some 3), .box (.t 0), none⟩, ⟨(some 4), .box (.t 1), none⟩, ⟨(some 5), .box (.t 2), none⟩, ⟨(some 6), .mv (.k (.bool false)), none⟩])
  (.seq (.seq (.region [⟨(some 13), .load true 2 (.t 5) (some 5), none⟩, ⟨(some 14), .load true 2 (.t 4) (some 4), none⟩, ⟨(some 15), .call 31 [(.t 13), (.t 14)], none⟩, ⟨(some 16), .bin .geq (.t 15) (.k (.int .i64 0)), none⟩])
  (.cond (.t 16)
  (.seq (.region [⟨(some 17), .call 18 [], none⟩, ⟨(some 6), .mv (.t 17), none⟩])
    .ret)
  .skip))
  (.seq (.region [⟨(some 19), .load true 2 (.t 3) (some 3), none⟩, ⟨(some 20), .load true 2 (.t 4) (some 4), none⟩, ⟨(some 21), .call 17 [(.t 19), (.t 20)], none⟩, ⟨(some 18), .mv (.t 21), none⟩, ⟨(some 22), .ext (.t 18) 0, none⟩, ⟨(some 23), .ext (.t 18) 1, none⟩, ⟨(some 7), .alloc [.v (.int .u64 0), .v (.int .u64 0)], none⟩, ⟨(some 8), .alloc [.v (.int .u64 0), .v (.int .u64 0)], none⟩, ⟨none, .store 2 (.t 7) (.t 22) 7, none⟩, ⟨none, .store 2 (.t 8) (.t 23) 8, none⟩])
  (.seq (.region [⟨(some 25), .load true 2 (.t 8) (some 8), none⟩, ⟨(some 26), .load true 2 (.t 5) (some 5), none⟩, ⟨(some 27), .call 26 [(.t 25), (.t 26)], none⟩, ⟨(some 24), .mv (.t 27), none⟩, ⟨(some 28), .ext (.t 24) 0, none⟩, ⟨(some 29), .ext (.t 24) 1, none⟩, ⟨none, .store 2 (.t 8) (.t 28) 8, none⟩, ⟨(some 9), .mv (.t 29), none⟩])
  (.seq (.seq (.region [⟨(some 30), .mv (.t 9), none⟩])
  (.cond (.t 30)
  (.region [⟨(some 32), .load true 2 (.t 7) (some 7), none⟩, ⟨(some 33), .build [.v (.int .u64 0), .v (.int .u64 0)] [(1, 1, (.k (.int .u64 1)))], none⟩, ⟨(some 34), .call 26 [(.t 32), (.t 33)], none⟩, ⟨(some 31), .mv (.t 34), none⟩, ⟨(some 35), .ext (.t 31) 0, none⟩, ⟨(some 36), .ext (.t 31) 1, none⟩, ⟨none, .store 2 (.t 7) (.t 35) 7, none⟩])
  .skip))
  (.seq (.region [⟨(some 38), .load true 2 (.t 7) (some 7), none⟩, ⟨(some 39), .load true 2 (.t 8) (some 8), none⟩, ⟨(some 40), .load true 2 (.t 4) (some 4), none⟩, ⟨(some 41), .call 23 [(.t 38), (.t 39), (.t 40)], none⟩, ⟨(some 37), .mv (.t 41), none⟩, ⟨(some 42), .ext (.t 37) 0, none⟩, ⟨(some 43), .ext (.t 37) 1, none⟩, ⟨(some 44), .ext (.t 37) 2, none⟩, ⟨(some 10), .alloc [.v (.int .u64 0), .v (.int .u64 0)], none⟩, ⟨(some 11), .alloc [.v (.int .u64 0), .v (.int .u64 0)], none⟩, ⟨none, .store 2 (.t 10) (.t 42) 10, none⟩, ⟨none, .store 2 (.t 11) (.t 43) 11, none⟩, ⟨(some 12), .mv (.t 44), none⟩])
  (.seq (.region [⟨(some 45), .call 18 [], none⟩, ⟨(some 46), .mv (.t 45), none⟩, ⟨(some 47), .mv (.t 12), (some (46, true))⟩, ⟨(some 48), .pick (.t 46) (.t 47) (.k (.bool false)), none⟩, ⟨(some 49), .mv (.t 48), none⟩, ⟨(some 50), .load true 2 (.t 10) (some 10), (some (49, true))⟩, ⟨(some 51), .load true 2 (.t 3) (some 3), (some (49, true))⟩, ⟨(some 52), .eqs false [.u64, .u64] (.t 50) (.t 51), (some (49, true))⟩, ⟨(some 53), .pick (.t 49) (.t 52) (.k (.bool false)), none⟩, ⟨(some 54), .mv (.t 53), none⟩, ⟨(some 55), .load true 2 (.t 11) (some 11), (some (54, true))⟩, ⟨(some 56), .load true 2 (.t 5) (some 5), (some (54, true))⟩, ⟨(some 57), .eqs false [.u64, .u64] (.t 55) (.t 56), (some (54, true))⟩, ⟨(some 58), .pick (.t 54) (.t 57) (.k (.bool false)), none⟩, ⟨(some 6), .mv (.t 58), none⟩])
  .ret)))))))⟩
theorem epactlaw01_LimbBack.chk : chkFn Try.prog Try.f6 epactlaw01_LimbBack.c = true := by kernel_rfl
theorem epactlaw01_LimbBack.ent : ∀ args w, (callFunc 6 args).run Try.prog w = .ok (.enter 6 args) w := enters Try.func6 (by kernel_rfl) (by kernel_rfl)

/-- epact/epactlaw01.LimbTurns -/
def epactlaw01_LimbTurns.c : SF := ⟨60, [.t 4],
  (.seq (.region [⟨(some 2), .box (.t 0), none⟩, ⟨(some 3), .box (.t 1), none⟩, ⟨(some 4), .mv (.k (.bool false)), none⟩])
  (.seq (.region [⟨(some 12), .load true 2 (.t 2) (some 2), none⟩, ⟨(some 13), .load true 2 (.t 3) (some 3), none⟩, ⟨(some 14), .call 26 [(.t 12), (.t 13)], none⟩, ⟨(some 11), .mv (.t 14), none⟩, ⟨(some 15), .ext (.t 11) 0, none⟩, ⟨(some 16), .ext (.t 11) 1, none⟩, ⟨(some 5), .alloc [.v (.int .u64 0), .v (.int .u64 0)], none⟩, ⟨none, .store 2 (.t 5) (.t 15) 5, none⟩, ⟨(some 6), .mv (.t 16), none⟩])
  (.seq (.region [⟨(some 18), .load true 2 (.t 3) (some 3), none⟩, ⟨(some 19), .load true 2 (.t 2) (some 2), none⟩, ⟨(some 20), .call 26 [(.t 18), (.t 19)], none⟩, ⟨(some 17), .mv (.t 20), none⟩, ⟨(some 21), .ext (.t 17) 0, none⟩, ⟨(some 22), .ext (.t 17) 1, none⟩, ⟨(some 7), .alloc [.v (.int .u64 0), .v (.int .u64 0)], none⟩, ⟨none, .store 2 (.t 7) (.t 21) 7, none⟩, ⟨(some 8), .mv (.t 22), none⟩])
  (.seq (.region [⟨(some 24), .load true 2 (.t 5) (some 5), none⟩, ⟨(some 25), .load true 2 (.t 3) (some 3), none⟩, ⟨(some 26), .call 27 [(.t 24), (.t 25)], none⟩, ⟨(some 23), .mv (.t 26), none⟩, ⟨(some 27), .ext (.t 23) 0, none⟩, ⟨(some 28), .ext (.t 23) 1, none⟩, ⟨(some 9), .alloc [.v (.int .u64 0), .v (.int .u64 0)], none⟩, ⟨none, .store 2 (.t 9) (.t 27) 9, none⟩, ⟨(some 10), .mv (.t 28), none⟩])
  (.seq (.region [⟨(some 29), .call 18 [], none⟩, ⟨(some 30), .mv (.t 29), none⟩, ⟨(some 31), .load true 2 (.t 5) (some 5), (some (30, true))⟩, ⟨(some 32), .load true 2 (.t 7) (some 7), (some (30, true))⟩, ⟨(some 33), .eqs false [.u64, .u64] (.t 31) (.t 32), (some (30, true))⟩, ⟨(some 34), .pick (.t 30) (.t 33) (.k (.bool false)), none⟩, ⟨(some 35), .mv (.t 34), none⟩, ⟨(some 36), .mv (.t 6), (some (35, true))⟩, ⟨(some 37), .mv (.t 8), (some (35, true))⟩, ⟨(some 38), .eqb false (.t 36) (.t 37), (some (35, true))⟩, ⟨(some 39), .pick (.t 35) (.t 38) (.k (.bool false)), none⟩, ⟨(some 40), .mv (.t 39), none⟩, ⟨(some 41), .load true 2 (.t 9) (some 9), (some (40, true))⟩, ⟨(some 42), .load true 2 (.t 2) (some 2), (some (40, true))⟩, ⟨(some 43), .eqs false [.u64, .u64] (.t 41) (.t 42), (some (40, true))⟩, ⟨(some 44), .pick (.t 40) (.t 43) (.k (.bool false)), none⟩, ⟨(some 45), .mv (.t 44), none⟩, ⟨(some 46), .mv (.t 10), (some (45, true))⟩, ⟨(some 47), .mv (.t 6), (some (45, true))⟩, ⟨(some 48), .eqb false (.t 46) (.t 47), (some (45, true))⟩, ⟨(some 49), .pick (.t 45) (.t 48) (.k (.bool false)), none⟩, ⟨(some 50), .mv (.t 49), none⟩, ⟨(some 51), .load true 2 (.t 2) (some 2), (some (50, true))⟩, ⟨(some 52), .load true 2 (.t 3) (some 3), (some (50, true))⟩, ⟨(some 53), .call 31 [(.t 51), (.t 52)], (some (50, true))⟩, ⟨(some 54), .load true 2 (.t 3) (some 3), (some (50, true))⟩, ⟨(some 55), .load true 2 (.t 2) (some 2), (some (50, true))⟩, ⟨(some 56), .call 31 [(.t 54), (.t 55)], (some (50, true))⟩, ⟨(some 57), .neg (.t 56), (some (50, true))⟩, ⟨(some 58), .bin .eql (.t 53) (.t 57), (some (50, true))⟩, ⟨(some 59), .pick (.t 50) (.t 58) (.k (.bool false)), none⟩, ⟨(some 4), .mv (.t 59), none⟩])
  .ret)))))⟩
theorem epactlaw01_LimbTurns.chk : chkFn Try.prog Try.f7 epactlaw01_LimbTurns.c = true := by kernel_rfl
theorem epactlaw01_LimbTurns.ent : ∀ args w, (callFunc 7 args).run Try.prog w = .ok (.enter 7 args) w := enters Try.func7 (by kernel_rfl) (by kernel_rfl)

/-- epact/epactlaw02.WideInts -/
def epactlaw02_WideInts.c : SF := ⟨87, [.t 6],
  (.seq (.region [⟨(some 4), .box (.t 1), none⟩, ⟨(some 5), .box (.t 2), none⟩, ⟨(some 6), .mv (.k (.bool false)), none⟩])
  (.seq (.region [⟨(some 13), .mv (.t 0), none⟩, ⟨(some 14), .call 33 [(.t 13)], none⟩, ⟨(some 15), .call 32 [(.t 14)], none⟩, ⟨(some 12), .mv (.t 15), none⟩, ⟨(some 16), .ext (.t 12) 0, none⟩, ⟨(some 17), .ext (.t 12) 1, none⟩, ⟨(some 7), .mv (.t 16), none⟩, ⟨(some 8), .mv (.t 17), none⟩])
  (.seq (.region [⟨(some 19), .load true 2 (.t 4) (some 4), none⟩, ⟨(some 20), .call 32 [(.t 19)], none⟩, ⟨(some 18), .mv (.t 20), none⟩, ⟨(some 21), .ext (.t 18) 0, none⟩, ⟨(some 22), .ext (.t 18) 1, none⟩, ⟨(some 9), .mv (.t 21), none⟩, ⟨(some 10), .mv (.t 22), none⟩])
  (.seq (.region [⟨(some 23), .load true 2 (.t 4) (some 4), none⟩, ⟨(some 24), .call 34 [(.t 23)], none⟩, ⟨(some 25), .fld 1 (.t 4), none⟩, ⟨(some 26), .load false 1 (.t 25) (some 4), none⟩, ⟨(some 27), .cvt .i64 (.t 26), none⟩, ⟨(some 28), .call 35 [(.t 27)], none⟩, ⟨(some 29), .call 19 [(.t 24), (.t 28)], none⟩, ⟨(some 11), .mv (.t 29), none⟩])
  (.seq (.region [⟨(some 30), .call 36 [], none⟩, ⟨(some 31), .mv (.t 30), none⟩, ⟨(some 32), .mv (.t 7), (some (31, true))⟩, ⟨(some 33), .mv (.t 0), (some (31, true))⟩, ⟨(some 34), .bin .eql (.t 32) (.t 33), (some (31, true))⟩, ⟨(some 35), .pick (.t 31) (.t 34) (.k (.bool false)), none⟩, ⟨(some 36), .mv (.t 35), none⟩, ⟨(some 37), .mv (.t 8), (some (36, true))⟩, ⟨(some 38), .bin .eql (.t 37) (.k (.int .i64 0)), (some (36, true))⟩, ⟨(some 39), .pick (.t 36) (.t 38) (.k (.bool false)), none⟩, ⟨(some 40), .mv (.t 39), none⟩, ⟨(some 41), .mv (.t 0), (some (40, true))⟩, ⟨(some 42), .call 33 [(.t 41)], (some (40, true))⟩, ⟨(some 43), .call 34 [(.t 42)], (some (40, true))⟩, ⟨(some 44), .mv (.t 0), (some (40, true))⟩, ⟨(some 45), .call 35 [(.t 44)], (some (40, true))⟩, ⟨(some 46), .call 19 [(.t 43), (.t 45)], (some (40, true))⟩, ⟨(some 47), .pick (.t 40) (.t 46) (.k (.bool false)), none⟩, ⟨(some 48), .mv (.t 47), none⟩, ⟨(some 49), .mv (.t 10), (some (48, true))⟩, ⟨(some 50), .bin .eql (.t 49) (.k (.int .i64 0)), (some (48, true))⟩, ⟨(some 51), .mv (.t 11), (some (48, true))⟩, ⟨(some 52), .eqb false (.t 50) (.t 51), (some (48, true))⟩, ⟨(some 53), .pick (.t 48) (.t 52) (.k (.bool false)), none⟩, ⟨(some 54), .mv (.t 53), none⟩, ⟨(some 55), .mv (.t 11), (some (54, true))⟩, ⟨(some 56), .mv (.t 55), (some (54, true))⟩, ⟨(some 57), .mv (.t 9), (some (56, true))⟩, ⟨(some 58), .fld 1 (.t 4), (some (56, true))⟩, ⟨(some 59), .load false 1 (.t 58) (some 4), (some (56, true))⟩, ⟨(some 60), .cvt .i64 (.t 59), (some (56, true))⟩, ⟨(some 61), .bin .eql (.t 57) (.t 60), (some (56, true))⟩, ⟨(some 62), .pick (.t 56) (.t 61) (.k (.bool false)), (some (54, true))⟩, ⟨(some 63), .mv (.t 62), (some (54, true))⟩, ⟨(some 64), .mv (.t 11), (some (63, false))⟩, ⟨(some 65), .not (.t 64), (some (63, false))⟩, ⟨(some 66), .mv (.t 65), (some (63, false))⟩, ⟨(some 67), .mv (.t 9), (some (66, true))⟩, ⟨(some 68), .bin .eql (.t 67) (.k (.int .i64 0)), (some (66, true))⟩, ⟨(some 69), .pick (.t 66) (.t 68) (.k (.bool false)), (some (63, false))⟩, ⟨(some 70), .mv (.t 69), (some (63, false))⟩, ⟨(some 71), .mv (.t 10), (some (70, true))⟩, ⟨(some 72), .bin .eql (.t 71) (.k (.int .i64 2)), (some (70, true))⟩, ⟨(some 73), .pick (.t 70) (.t 72) (.k (.bool false)), (some (63, false))⟩, ⟨(some 74), .pick (.t 63) (.k (.bool true)) (.t 73), (some (54, true))⟩, ⟨(some 75), .pick (.t 54) (.t 74) (.k (.bool false)), none⟩, ⟨(some 76), .mv (.t 75), none⟩, ⟨(some 77), .load true 2 (.t 4) (some 4), (some (76, true))⟩, ⟨(some 78), .load true 2 (.t 5) (some 5), (some (76, true))⟩, ⟨(some 79), .call 37 [(.t 77), (.t 78)], (some (76, true))⟩, ⟨(some 80), .load true 2 (.t 4) (some 4), (some (76, true))⟩, ⟨(some 81), .call 34 [(.t 80)], (some (76, true))⟩, ⟨(some 82), .load true 2 (.t 5) (some 5), (some (76, true))⟩, ⟨(some 83), .call 34 [(.t 82)], (some (76, true))⟩, ⟨(some 84), .call 24 [(.t 81), (.t 83)], (some (76, true))⟩, ⟨(some 85), .bin .eql (.t 79) (.t 84), (some (76, true))⟩, ⟨(some 86), .pick (.t 76) (.t 85) (.k (.bool false)), none⟩, ⟨(some 6), .mv (.t 86), none⟩])
  .ret)))))⟩
theorem epactlaw02_WideInts.chk : chkFn Try.prog Try.f8 epactlaw02_WideInts.c = true := by kernel_rfl
theorem epactlaw02_WideInts.ent : ∀ args w, (callFunc 8 args).run Try.prog w = .ok (.enter 8 args) w := enters Try.func8 (by kernel_rfl) (by kernel_rfl)

/-- epact/epactlaw02.WideDivs -/
def epactlaw02_WideDivs.c : SF := ⟨62, [.t 4],
  (.seq (.region [⟨(some 2), .box (.t 0), none⟩, ⟨(some 3), .box (.t 1), none⟩, ⟨(some 4), .mv (.k (.bool false)), none⟩])
  (.seq (.region [⟨(some 11), .load true 2 (.t 2) (some 2), none⟩, ⟨(some 12), .load true 2 (.t 3) (some 3), none⟩, ⟨(some 13), .call 38 [(.t 11), (.t 12)], none⟩, ⟨(some 10), .mv (.t 13), none⟩, ⟨(some 14), .ext (.t 10) 0, none⟩, ⟨(some 15), .ext (.t 10) 1, none⟩, ⟨(some 16), .ext (.t 10) 2, none⟩, ⟨(some 5), .alloc [.v (.int .i64 0), .v (.int .u64 0)], none⟩, ⟨(some 6), .alloc [.v (.int .i64 0), .v (.int .u64 0)], none⟩, ⟨none, .store 2 (.t 5) (.t 14) 5, none⟩, ⟨none, .store 2 (.t 6) (.t 15) 6, none⟩, ⟨(some 7), .mv (.t 16), none⟩])
  (.seq (.seq (.region [⟨(some 17), .load true 2 (.t 3) (some 3), none⟩, ⟨(some 18), .call 34 [(.t 17)], none⟩, ⟨(some 19), .call 35 [(.k (.int .i64 0))], none⟩, ⟨(some 20), .call 24 [(.t 18), (.t 19)], none⟩, ⟨(some 21), .bin .leq (.t 20) (.k (.int .i64 0)), none⟩])
  (.cond (.t 21)
  (.seq (.region [⟨(some 22), .call 36 [], none⟩, ⟨(some 23), .mv (.t 22), none⟩, ⟨(some 24), .mv (.t 7), (some (23, true))⟩, ⟨(some 25), .bin .eql (.t 24) (.k (.int .i64 3)), (some (23, true))⟩, ⟨(some 26), .pick (.t 23) (.t 25) (.k (.bool false)), none⟩, ⟨(some 27), .mv (.t 26), none⟩, ⟨(some 28), .load true 2 (.t 5) (some 5), (some (27, true))⟩, ⟨(some 29), .build [.v (.int .i64 0), .v (.int .u64 0)] [], (some (27, true))⟩, ⟨(some 30), .eqs false [.i64, .u64] (.t 28) (.t 29), (some (27, true))⟩, ⟨(some 31), .pick (.t 27) (.t 30) (.k (.bool false)), none⟩, ⟨(some 32), .mv (.t 31), none⟩, ⟨(some 33), .load true 2 (.t 6) (some 6), (some (32, true))⟩, ⟨(some 34), .build [.v (.int .i64 0), .v (.int .u64 0)] [], (some (32, true))⟩, ⟨(some 35), .eqs false [.i64, .u64] (.t 33) (.t 34), (some (32, true))⟩, ⟨(some 36), .pick (.t 32) (.t 35) (.k (.bool false)), none⟩, ⟨(some 4), .mv (.t 36), none⟩])
    .ret)
  .skip))
  (.seq (.region [⟨(some 38), .load true 2 (.t 2) (some 2), none⟩, ⟨(some 39), .call 34 [(.t 38)], none⟩, ⟨(some 40), .load true 2 (.t 3) (some 3), none⟩, ⟨(some 41), .call 34 [(.t 40)], none⟩, ⟨(some 42), .call 25 [(.t 39), (.t 41)], none⟩, ⟨(some 37), .mv (.t 42), none⟩, ⟨(some 43), .ext (.t 37) 0, none⟩, ⟨(some 44), .ext (.t 37) 1, none⟩, ⟨(some 8), .alloc [.v (.bool false), .nil .i64], none⟩, ⟨(some 9), .alloc [.v (.bool false), .nil .i64], none⟩, ⟨none, .store 2 (.t 8) (.t 43) 8, none⟩, ⟨none, .store 2 (.t 9) (.t 44) 9, none⟩])
  (.seq (.region [⟨(some 45), .call 36 [], none⟩, ⟨(some 46), .mv (.t 45), none⟩, ⟨(some 47), .mv (.t 7), (some (46, true))⟩, ⟨(some 48), .bin .eql (.t 47) (.k (.int .i64 0)), (some (46, true))⟩, ⟨(some 49), .pick (.t 46) (.t 48) (.k (.bool false)), none⟩, ⟨(some 50), .mv (.t 49), none⟩, ⟨(some 51), .load true 2 (.t 5) (some 5), (some (50, true))⟩, ⟨(some 52), .call 34 [(.t 51)], (some (50, true))⟩, ⟨(some 53), .load true 2 (.t 8) (some 8), (some (50, true))⟩, ⟨(some 54), .call 19 [(.t 52), (.t 53)], (some (50, true))⟩, ⟨(some 55), .pick (.t 50) (.t 54) (.k (.bool false)), none⟩, ⟨(some 56), .mv (.t 55), none⟩, ⟨(some 57), .load true 2 (.t 6) (some 6), (some (56, true))⟩, ⟨(some 58), .call 34 [(.t 57)], (some (56, true))⟩, ⟨(some 59), .load true 2 (.t 9) (some 9), (some (56, true))⟩, ⟨(some 60), .call 19 [(.t 58), (.t 59)], (some (56, true))⟩, ⟨(some 61), .pick (.t 56) (.t 60) (.k (.bool false)), none⟩, ⟨(some 4), .mv (.t 61), none⟩])
  .ret)))))⟩
theorem epactlaw02_WideDivs.chk : chkFn Try.prog Try.f9 epactlaw02_WideDivs.c = true := by kernel_rfl
theorem epactlaw02_WideDivs.ent : ∀ args w, (callFunc 9 args).run Try.prog w = .ok (.enter 9 args) w := enters Try.func9 (by kernel_rfl) (by kernel_rfl)

/-- epact/epactlaw02.WideMulDivs -/
def epactlaw02_WideMulDivs.c : SF := ⟨76, [.t 6],
  (.seq (.region [⟨(some 3), .box (.t 0), none⟩, ⟨(some 4), .box (.t 1), none⟩, ⟨(some 5), .box (.t 2), none⟩, ⟨(some 6), .mv (.k (.bool false)), none⟩])
  (.seq (.region [⟨(some 13), .load true 2 (.t 3) (some 3), none⟩, ⟨(some 14), .load true 2 (.t 4) (some 4), none⟩, ⟨(some 15), .load true 2 (.t 5) (some 5), none⟩, ⟨(some 16), .call 39 [(.t 13), (.t 14), (.t 15)], none⟩, ⟨(some 12), .mv (.t 16), none⟩, ⟨(some 17), .ext (.t 12) 0, none⟩, ⟨(some 18), .ext (.t 12) 1, none⟩, ⟨(some 19), .ext (.t 12) 2, none⟩, ⟨(some 7), .alloc [.v (.int .i64 0), .v (.int .u64 0)], none⟩, ⟨(some 8), .alloc [.v (.int .i64 0), .v (.int .u64 0)], none⟩, ⟨none, .store 2 (.t 7) (.t 17) 7, none⟩, ⟨none, .store 2 (.t 8) (.t 18) 8, none⟩, ⟨(some 9), .mv (.t 19), none⟩])
  (.seq (.seq (.region [⟨(some 20), .load true 2 (.t 5) (some 5), none⟩, ⟨(some 21), .call 34 [(.t 20)], none⟩, ⟨(some 22), .call 35 [(.k (.int .i64 0))], none⟩, ⟨(some 23), .call 24 [(.t 21), (.t 22)], none⟩, ⟨(some 24), .bin .leq (.t 23) (.k (.int .i64 0)), none⟩])
  (.cond (.t 24)
  (.seq (.region [⟨(some 25), .call 36 [], none⟩, ⟨(some 26), .mv (.t 25), none⟩, ⟨(some 27), .mv (.t 9), (some (26, true))⟩, ⟨(some 28), .bin .eql (.t 27) (.k (.int .i64 3)), (some (26, true))⟩, ⟨(some 29), .pick (.t 26) (.t 28) (.k (.bool false)), none⟩, ⟨(some 30), .mv (.t 29), none⟩, ⟨(some 31), .load true 2 (.t 7) (some 7), (some (30, true))⟩, ⟨(some 32), .build [.v (.int .i64 0), .v (.int .u64 0)] [], (some (30, true))⟩, ⟨(some 33), .eqs false [.i64, .u64] (.t 31) (.t 32), (some (30, true))⟩, ⟨(some 34), .pick (.t 30) (.t 33) (.k (.bool false)), none⟩, ⟨(some 35), .mv (.t 34), none⟩, ⟨(some 36), .load true 2 (.t 8) (some 8), (some (35, true))⟩, ⟨(some 37), .build [.v (.int .i64 0), .v (.int .u64 0)] [], (some (35, true))⟩, ⟨(some 38), .eqs false [.i64, .u64] (.t 36) (.t 37), (some (35, true))⟩, ⟨(some 39), .pick (.t 35) (.t 38) (.k (.bool false)), none⟩, ⟨(some 6), .mv (.t 39), none⟩])
    .ret)
  .skip))
  (.seq (.region [⟨(some 41), .load true 2 (.t 3) (some 3), none⟩, ⟨(some 42), .call 34 [(.t 41)], none⟩, ⟨(some 43), .load true 2 (.t 4) (some 4), none⟩, ⟨(some 44), .call 34 [(.t 43)], none⟩, ⟨(some 45), .call 21 [(.t 42), (.t 44)], none⟩, ⟨(some 46), .load true 2 (.t 5) (some 5), none⟩, ⟨(some 47), .call 34 [(.t 46)], none⟩, ⟨(some 48), .call 25 [(.t 45), (.t 47)], none⟩, ⟨(some 40), .mv (.t 48), none⟩, ⟨(some 49), .ext (.t 40) 0, none⟩, ⟨(some 50), .ext (.t 40) 1, none⟩, ⟨(some 10), .alloc [.v (.bool false), .nil .i64], none⟩, ⟨(some 11), .alloc [.v (.bool false), .nil .i64], none⟩, ⟨none, .store 2 (.t 10) (.t 49) 10, none⟩, ⟨none, .store 2 (.t 11) (.t 50) 11, none⟩])
  (.seq (.seq (.region [⟨(some 51), .load true 2 (.t 7) (some 7), none⟩, ⟨(some 52), .mv (.t 9), none⟩, ⟨(some 53), .load true 2 (.t 10) (some 10), none⟩, ⟨(some 54), .call 40 [(.t 51), (.t 52), (.t 53)], none⟩, ⟨(some 55), .not (.t 54), none⟩])
  (.cond (.t 55)
  (.seq (.region [⟨(some 6), .mv (.k (.bool false)), none⟩])
    .ret)
  .skip))
  (.seq (.region [⟨(some 56), .call 36 [], none⟩, ⟨(some 57), .mv (.t 56), none⟩, ⟨(some 58), .mv (.t 9), (some (57, true))⟩, ⟨(some 59), .bin .neq (.t 58) (.k (.int .i64 0)), (some (57, true))⟩, ⟨(some 60), .mv (.t 59), (some (57, true))⟩, ⟨(some 61), .load true 2 (.t 8) (some 8), (some (60, true))⟩, ⟨(some 62), .build [.v (.int .i64 0), .v (.int .u64 0)] [], (some (60, true))⟩, ⟨(some 63), .eqs false [.i64, .u64] (.t 61) (.t 62), (some (60, true))⟩, ⟨(some 64), .pick (.t 60) (.t 63) (.k (.bool false)), (some (57, true))⟩, ⟨(some 65), .mv (.t 64), (some (57, true))⟩, ⟨(some 66), .mv (.t 9), (some (65, false))⟩, ⟨(some 67), .bin .eql (.t 66) (.k (.int .i64 0)), (some (65, false))⟩, ⟨(some 68), .mv (.t 67), (some (65, false))⟩, ⟨(some 69), .load true 2 (.t 8) (some 8), (some (68, true))⟩, ⟨(some 70), .call 34 [(.t 69)], (some (68, true))⟩, ⟨(some 71), .load true 2 (.t 11) (some 11), (some (68, true))⟩, ⟨(some 72), .call 19 [(.t 70), (.t 71)], (some (68, true))⟩, ⟨(some 73), .pick (.t 68) (.t 72) (.k (.bool false)), (some (65, false))⟩, ⟨(some 74), .pick (.t 65) (.k (.bool true)) (.t 73), (some (57, true))⟩, ⟨(some 75), .pick (.t 57) (.t 74) (.k (.bool false)), none⟩, ⟨(some 6), .mv (.t 75), none⟩])
  .ret))))))⟩
theorem epactlaw02_WideMulDivs.chk : chkFn Try.prog Try.f10 epactlaw02_WideMulDivs.c = true := by kernel_rfl
theorem epactlaw02_WideMulDivs.ent : ∀ args w, (callFunc 10 args).run Try.prog w = .ok (.enter 10 args) w := enters Try.func10 (by kernel_rfl) (by kernel_rfl)

/-- epact/epactlaw02.WideMuls -/
def epactlaw02_WideMuls.c : SF := ⟨24, [.t 4],
  (.seq (.region [⟨(some 2), .box (.t 0), none⟩, ⟨(some 3), .box (.t 1), none⟩, ⟨(some 4), .mv (.k (.bool false)), none⟩])
  (.seq (.region [⟨(some 8), .load true 2 (.t 2) (some 2), none⟩, ⟨(some 9), .load true 2 (.t 3) (some 3), none⟩, ⟨(some 10), .call 41 [(.t 8), (.t 9)], none⟩, ⟨(some 7), .mv (.t 10), none⟩, ⟨(some 11), .ext (.t 7) 0, none⟩, ⟨(some 12), .ext (.t 7) 1, none⟩, ⟨(some 5), .alloc [.v (.int .i64 0), .v (.int .u64 0)], none⟩, ⟨none, .store 2 (.t 5) (.t 11) 5, none⟩, ⟨(some 6), .mv (.t 12), none⟩])
  (.seq (.region [⟨(some 13), .call 36 [], none⟩, ⟨(some 14), .mv (.t 13), none⟩, ⟨(some 15), .load true 2 (.t 5) (some 5), (some (14, true))⟩, ⟨(some 16), .mv (.t 6), (some (14, true))⟩, ⟨(some 17), .load true 2 (.t 2) (some 2), (some (14, true))⟩, ⟨(some 18), .call 34 [(.t 17)], (some (14, true))⟩, ⟨(some 19), .load true 2 (.t 3) (some 3), (some (14, true))⟩, ⟨(some 20), .call 34 [(.t 19)], (some (14, true))⟩, ⟨(some 21), .call 21 [(.t 18), (.t 20)], (some (14, true))⟩, ⟨(some 22), .call 40 [(.t 15), (.t 16), (.t 21)], (some (14, true))⟩, ⟨(some 23), .pick (.t 14) (.t 22) (.k (.bool false)), none⟩, ⟨(some 4), .mv (.t 23), none⟩])
  .ret)))⟩
theorem epactlaw02_WideMuls.chk : chkFn Try.prog Try.f11 epactlaw02_WideMuls.c = true := by kernel_rfl
theorem epactlaw02_WideMuls.ent : ∀ args w, (callFunc 11 args).run Try.prog w = .ok (.enter 11 args) w := enters Try.func11 (by kernel_rfl) (by kernel_rfl)

/-- epact/epactlaw02.WideAdds -/
def epactlaw02_WideAdds.c : SF := ⟨57, [.t 4],
  (.seq (.region [⟨(some 2), .box (.t 0), none⟩, ⟨(some 3), .box (.t 1), none⟩, ⟨(some 4), .mv (.k (.bool false)), none⟩])
  (.seq (.region [⟨(some 12), .load true 2 (.t 2) (some 2), none⟩, ⟨(some 13), .load true 2 (.t 3) (some 3), none⟩, ⟨(some 14), .call 42 [(.t 12), (.t 13)], none⟩, ⟨(some 11), .mv (.t 14), none⟩, ⟨(some 15), .ext (.t 11) 0, none⟩, ⟨(some 16), .ext (.t 11) 1, none⟩, ⟨(some 5), .alloc [.v (.int .i64 0), .v (.int .u64 0)], none⟩, ⟨none, .store 2 (.t 5) (.t 15) 5, none⟩, ⟨(some 6), .mv (.t 16), none⟩])
  (.seq (.region [⟨(some 18), .load true 2 (.t 2) (some 2), none⟩, ⟨(some 19), .load true 2 (.t 3) (some 3), none⟩, ⟨(some 20), .call 43 [(.t 18), (.t 19)], none⟩, ⟨(some 17), .mv (.t 20), none⟩, ⟨(some 21), .ext (.t 17) 0, none⟩, ⟨(some 22), .ext (.t 17) 1, none⟩, ⟨(some 7), .alloc [.v (.int .i64 0), .v (.int .u64 0)], none⟩, ⟨none, .store 2 (.t 7) (.t 21) 7, none⟩, ⟨(some 8), .mv (.t 22), none⟩])
  (.seq (.region [⟨(some 24), .load true 2 (.t 2) (some 2), none⟩, ⟨(some 25), .call 44 [(.t 24)], none⟩, ⟨(some 23), .mv (.t 25), none⟩, ⟨(some 26), .ext (.t 23) 0, none⟩, ⟨(some 27), .ext (.t 23) 1, none⟩, ⟨(some 9), .alloc [.v (.int .i64 0), .v (.int .u64 0)], none⟩, ⟨none, .store 2 (.t 9) (.t 26) 9, none⟩, ⟨(some 10), .mv (.t 27), none⟩])
  (.seq (.region [⟨(some 28), .call 36 [], none⟩, ⟨(some 29), .mv (.t 28), none⟩, ⟨(some 30), .load true 2 (.t 5) (some 5), (some (29, true))⟩, ⟨(some 31), .mv (.t 6), (some (29, true))⟩, ⟨(some 32), .load true 2 (.t 2) (some 2), (some (29, true))⟩, ⟨(some 33), .call 34 [(.t 32)], (some (29, true))⟩, ⟨(some 34), .load true 2 (.t 3) (some 3), (some (29, true))⟩, ⟨(some 35), .call 34 [(.t 34)], (some (29, true))⟩, ⟨(some 36), .call 28 [(.t 33), (.t 35)], (some (29, true))⟩, ⟨(some 37), .call 40 [(.t 30), (.t 31), (.t 36)], (some (29, true))⟩, ⟨(some 38), .pick (.t 29) (.t 37) (.k (.bool false)), none⟩, ⟨(some 39), .mv (.t 38), none⟩, ⟨(some 40), .load true 2 (.t 7) (some 7), (some (39, true))⟩, ⟨(some 41), .mv (.t 8), (some (39, true))⟩, ⟨(some 42), .load true 2 (.t 2) (some 2), (some (39, true))⟩, ⟨(some 43), .call 34 [(.t 42)], (some (39, true))⟩, ⟨(some 44), .load true 2 (.t 3) (some 3), (some (39, true))⟩, ⟨(some 45), .call 34 [(.t 44)], (some (39, true))⟩, ⟨(some 46), .call 29 [(.t 43), (.t 45)], (some (39, true))⟩, ⟨(some 47), .call 40 [(.t 40), (.t 41), (.t 46)], (some (39, true))⟩, ⟨(some 48), .pick (.t 39) (.t 47) (.k (.bool false)), none⟩, ⟨(some 49), .mv (.t 48), none⟩, ⟨(some 50), .load true 2 (.t 9) (some 9), (some (49, true))⟩, ⟨(some 51), .mv (.t 10), (some (49, true))⟩, ⟨(some 52), .load true 2 (.t 2) (some 2), (some (49, true))⟩, ⟨(some 53), .call 34 [(.t 52)], (some (49, true))⟩, ⟨(some 54), .call 45 [(.t 53)], (some (49, true))⟩, ⟨(some 55), .call 40 [(.t 50), (.t 51), (.t 54)], (some (49, true))⟩, ⟨(some 56), .pick (.t 49) (.t 55) (.k (.bool false)), none⟩, ⟨(some 4), .mv (.t 56), none⟩])
  .ret)))))⟩
theorem epactlaw02_WideAdds.chk : chkFn Try.prog Try.f12 epactlaw02_WideAdds.c = true := by kernel_rfl
theorem epactlaw02_WideAdds.ent : ∀ args w, (callFunc 12 args).run Try.prog w = .ok (.enter 12 args) w := enters Try.func12 (by kernel_rfl) (by kernel_rfl)

/-- epact/epactlaw02.WideBack -/
def epactlaw02_WideBack.c : SF := ⟨97, [.t 6],
  (.seq (.region [⟨(some 3), .box (.t 0), none⟩, ⟨(some 4), .box (.t 1), none⟩, ⟨(some 5), .box (.t 2), none⟩, ⟨(some 6), .mv (.k (.bool false)), none⟩])
  (.seq (.region [⟨(some 19), .load true 2 (.t 3) (some 3), none⟩, ⟨(some 20), .load true 2 (.t 4) (some 4), none⟩, ⟨(some 21), .call 42 [(.t 19), (.t 20)], none⟩, ⟨(some 18), .mv (.t 21), none⟩, ⟨(some 22), .ext (.t 18) 0, none⟩, ⟨(some 23), .ext (.t 18) 1, none⟩, ⟨(some 7), .alloc [.v (.int .i64 0), .v (.int .u64 0)], none⟩, ⟨none, .store 2 (.t 7) (.t 22) 7, none⟩, ⟨(some 8), .mv (.t 23), none⟩])
  (.seq (.seq (.region [⟨(some 24), .mv (.t 8), none⟩, ⟨(some 25), .bin .eql (.t 24) (.k (.int .i64 0)), none⟩])
  (.cond (.t 25)
  (.seq (.region [⟨(some 27), .load true 2 (.t 7) (some 7), none⟩, ⟨(some 28), .load true 2 (.t 4) (some 4), none⟩, ⟨(some 29), .call 43 [(.t 27), (.t 28)], none⟩, ⟨(some 26), .mv (.t 29), none⟩, ⟨(some 30), .ext (.t 26) 0, none⟩, ⟨(some 31), .ext (.t 26) 1, none⟩, ⟨(some 9), .alloc [.v (.int .i64 0), .v (.int .u64 0)], none⟩, ⟨none, .store 2 (.t 9) (.t 30) 9, none⟩, ⟨(some 10), .mv (.t 31), none⟩])
    (.seq (.region [⟨(some 32), .mv (.t 10), none⟩, ⟨(some 33), .bin .neq (.t 32) (.k (.int .i64 0)), none⟩, ⟨(some 34), .mv (.t 33), none⟩, ⟨(some 35), .load true 2 (.t 9) (some 9), (some (34, false))⟩, ⟨(some 36), .load true 2 (.t 3) (some 3), (some (34, false))⟩, ⟨(some 37), .eqs true [.i64, .u64] (.t 35) (.t 36), (some (34, false))⟩, ⟨(some 38), .pick (.t 34) (.k (.bool true)) (.t 37), none⟩])
    (.cond (.t 38)
    (.seq (.region [⟨(some 6), .mv (.k (.bool false)), none⟩])
      .ret)
    .skip)))
  .skip))
  (.seq (.region [⟨(some 40), .load true 2 (.t 3) (some 3), none⟩, ⟨(some 41), .load true 2 (.t 5) (some 5), none⟩, ⟨(some 42), .call 38 [(.t 40), (.t 41)], none⟩, ⟨(some 39), .mv (.t 42), none⟩, ⟨(some 43), .ext (.t 39) 0, none⟩, ⟨(some 44), .ext (.t 39) 1, none⟩, ⟨(some 45), .ext (.t 39) 2, none⟩, ⟨(some 11), .alloc [.v (.int .i64 0), .v (.int .u64 0)], none⟩, ⟨(some 12), .alloc [.v (.int .i64 0), .v (.int .u64 0)], none⟩, ⟨none, .store 2 (.t 11) (.t 43) 11, none⟩, ⟨none, .store 2 (.t 12) (.t 44) 12, none⟩, ⟨(some 13), .mv (.t 45), none⟩])
  (.seq (.seq (.region [⟨(some 46), .mv (.t 13), none⟩, ⟨(some 47), .bin .neq (.t 46) (.k (.int .i64 0)), none⟩])
  (.cond (.t 47)
  (.seq (.region [⟨(some 48), .call 36 [], none⟩, ⟨(some 49), .mv (.t 48), none⟩, ⟨(some 50), .load true 2 (.t 5) (some 5), (some (49, true))⟩, ⟨(some 51), .build [.v (.int .i64 0), .v (.int .u64 0)] [], (some (49, true))⟩, ⟨(some 52), .call 37 [(.t 50), (.t 51)], (some (49, true))⟩, ⟨(some 53), .bin .leq (.t 52) (.k (.int .i64 0)), (some (49, true))⟩, ⟨(some 54), .pick (.t 49) (.t 53) (.k (.bool false)), none⟩, ⟨(some 6), .mv (.t 54), none⟩])
    .ret)
  .skip))
  (.seq (.region [⟨(some 56), .load true 2 (.t 11) (some 11), none⟩, ⟨(some 57), .load true 2 (.t 5) (some 5), none⟩, ⟨(some 58), .call 41 [(.t 56), (.t 57)], none⟩, ⟨(some 55), .mv (.t 58), none⟩, ⟨(some 59), .ext (.t 55) 0, none⟩, ⟨(some 60), .ext (.t 55) 1, none⟩, ⟨(some 14), .alloc [.v (.int .i64 0), .v (.int .u64 0)], none⟩, ⟨none, .store 2 (.t 14) (.t 59) 14, none⟩, ⟨(some 15), .mv (.t 60), none⟩])
  (.seq (.seq (.region [⟨(some 61), .mv (.t 15), none⟩, ⟨(some 62), .bin .neq (.t 61) (.k (.int .i64 0)), none⟩])
  (.cond (.t 62)
  (.seq (.region [⟨(some 63), .call 36 [], none⟩, ⟨(some 64), .mv (.t 63), none⟩, ⟨(some 65), .load true 2 (.t 3) (some 3), (some (64, true))⟩, ⟨(some 66), .build [.v (.int .i64 0), .v (.int .u64 0)] [], (some (64, true))⟩, ⟨(some 67), .call 37 [(.t 65), (.t 66)], (some (64, true))⟩, ⟨(some 68), .bin .lss (.t 67) (.k (.int .i64 0)), (some (64, true))⟩, ⟨(some 69), .pick (.t 64) (.t 68) (.k (.bool false)), none⟩, ⟨(some 6), .mv (.t 69), none⟩])
    .ret)
  .skip))
  (.seq (.region [⟨(some 71), .load true 2 (.t 14) (some 14), none⟩, ⟨(some 72), .load true 2 (.t 12) (some 12), none⟩, ⟨(some 73), .call 42 [(.t 71), (.t 72)], none⟩, ⟨(some 70), .mv (.t 73), none⟩, ⟨(some 74), .ext (.t 70) 0, none⟩, ⟨(some 75), .ext (.t 70) 1, none⟩, ⟨(some 16), .alloc [.v (.int .i64 0), .v (.int .u64 0)], none⟩, ⟨none, .store 2 (.t 16) (.t 74) 16, none⟩, ⟨(some 17), .mv (.t 75), none⟩])
  (.seq (.region [⟨(some 76), .call 36 [], none⟩, ⟨(some 77), .mv (.t 76), none⟩, ⟨(some 78), .mv (.t 17), (some (77, true))⟩, ⟨(some 79), .bin .eql (.t 78) (.k (.int .i64 0)), (some (77, true))⟩, ⟨(some 80), .pick (.t 77) (.t 79) (.k (.bool false)), none⟩, ⟨(some 81), .mv (.t 80), none⟩, ⟨(some 82), .load true 2 (.t 16) (some 16), (some (81, true))⟩, ⟨(some 83), .load true 2 (.t 3) (some 3), (some (81, true))⟩, ⟨(some 84), .eqs false [.i64, .u64] (.t 82) (.t 83), (some (81, true))⟩, ⟨(some 85), .pick (.t 81) (.t 84) (.k (.bool false)), none⟩, ⟨(some 86), .mv (.t 85), none⟩, ⟨(some 87), .load true 2 (.t 12) (some 12), (some (86, true))⟩, ⟨(some 88), .load true 2 (.t 5) (some 5), (some (86, true))⟩, ⟨(some 89), .call 37 [(.t 87), (.t 88)], (some (86, true))⟩, ⟨(some 90), .bin .lss (.t 89) (.k (.int .i64 0)), (some (86, true))⟩, ⟨(some 91), .pick (.t 86) (.t 90) (.k (.bool false)), none⟩, ⟨(some 92), .mv (.t 91), none⟩, ⟨(some 93), .fld 0 (.t 12), (some (92, true))⟩, ⟨(some 94), .load false 1 (.t 93) (some 12), (some (92, true))⟩, ⟨(some 95), .bin .geq (.t 94) (.k (.int .i64 0)), (some (92, true))⟩, ⟨(some 96), .pick (.t 92) (.t 95) (.k (.bool false)), none⟩, ⟨(some 6), .mv (.t 96), none⟩])
  .ret)))))))))⟩
theorem epactlaw02_WideBack.chk : chkFn Try.prog Try.f13 epactlaw02_WideBack.c = true := by kernel_rfl
theorem epactlaw02_WideBack.ent : ∀ args w, (callFunc 13 args).run Try.prog w = .ok (.enter 13 args) w := enters Try.func13 (by kernel_rfl) (by kernel_rfl)

/-- epact/epactlaw18.PivotFolds -/
def epactlaw18_PivotFolds.c : SF := ⟨49, [.t 4],
  (.seq (.region [⟨(some 2), .box (.t 0), none⟩, ⟨(some 3), .box (.t 1), none⟩, ⟨(some 4), .mv (.k (.bool false)), none⟩])
  (.seq (.region [⟨(some 10), .load true 2 (.t 2) (some 2), none⟩, ⟨(some 11), .load true 2 (.t 3) (some 3), none⟩, ⟨(some 12), .call 46 [(.t 10), (.t 11)], none⟩, ⟨(some 9), .mv (.t 12), none⟩, ⟨(some 13), .ext (.t 9) 0, none⟩, ⟨(some 14), .ext (.t 9) 1, none⟩, ⟨(some 5), .alloc [.v (.int .i64 0), .v (.int .u64 0)], none⟩, ⟨none, .store 2 (.t 5) (.t 13) 5, none⟩, ⟨(some 6), .mv (.t 14), none⟩])
  (.seq (.seq (.region [⟨(some 15), .load true 2 (.t 3) (some 3), none⟩, ⟨(some 16), .call 34 [(.t 15)], none⟩, ⟨(some 17), .call 35 [(.k (.int .i64 0))], none⟩, ⟨(some 18), .call 24 [(.t 16), (.t 17)], none⟩, ⟨(some 19), .bin .leq (.t 18) (.k (.int .i64 0)), none⟩])
  (.cond (.t 19)
  (.seq (.region [⟨(some 20), .call 47 [], none⟩, ⟨(some 21), .mv (.t 20), none⟩, ⟨(some 22), .mv (.t 6), (some (21, true))⟩, ⟨(some 23), .bin .eql (.t 22) (.k (.int .i64 3)), (some (21, true))⟩, ⟨(some 24), .pick (.t 21) (.t 23) (.k (.bool false)), none⟩, ⟨(some 25), .mv (.t 24), none⟩, ⟨(some 26), .load true 2 (.t 5) (some 5), (some (25, true))⟩, ⟨(some 27), .build [.v (.int .i64 0), .v (.int .u64 0)] [], (some (25, true))⟩, ⟨(some 28), .eqs false [.i64, .u64] (.t 26) (.t 27), (some (25, true))⟩, ⟨(some 29), .pick (.t 25) (.t 28) (.k (.bool false)), none⟩, ⟨(some 4), .mv (.t 29), none⟩])
    .ret)
  .skip))
  (.seq (.region [⟨(some 31), .load true 2 (.t 2) (some 2), none⟩, ⟨(some 32), .call 34 [(.t 31)], none⟩, ⟨(some 33), .load true 2 (.t 3) (some 3), none⟩, ⟨(some 34), .call 34 [(.t 33)], none⟩, ⟨(some 35), .call 25 [(.t 32), (.t 34)], none⟩, ⟨(some 30), .mv (.t 35), none⟩, ⟨(some 36), .ext (.t 30) 0, none⟩, ⟨(some 37), .ext (.t 30) 1, none⟩, ⟨(some 7), .alloc [.v (.bool false), .nil .i64], none⟩, ⟨(some 8), .alloc [.v (.bool false), .nil .i64], none⟩, ⟨none, .store 2 (.t 7) (.t 36) 7, none⟩, ⟨none, .store 2 (.t 8) (.t 37) 8, none⟩])
  (.seq (.region [⟨(some 38), .call 47 [], none⟩, ⟨(some 39), .mv (.t 38), none⟩, ⟨(some 40), .mv (.t 6), (some (39, true))⟩, ⟨(some 41), .bin .eql (.t 40) (.k (.int .i64 0)), (some (39, true))⟩, ⟨(some 42), .pick (.t 39) (.t 41) (.k (.bool false)), none⟩, ⟨(some 43), .mv (.t 42), none⟩, ⟨(some 44), .load true 2 (.t 5) (some 5), (some (43, true))⟩, ⟨(some 45), .call 34 [(.t 44)], (some (43, true))⟩, ⟨(some 46), .load true 2 (.t 8) (some 8), (some (43, true))⟩, ⟨(some 47), .call 19 [(.t 45), (.t 46)], (some (43, true))⟩, ⟨(some 48), .pick (.t 43) (.t 47) (.k (.bool false)), none⟩, ⟨(some 4), .mv (.t 48), none⟩])
  .ret)))))⟩
theorem epactlaw18_PivotFolds.chk : chkFn Try.prog Try.f14 epactlaw18_PivotFolds.c = true := by kernel_rfl
theorem epactlaw18_PivotFolds.ent : ∀ args w, (callFunc 14 args).run Try.prog w = .ok (.enter 14 args) w := enters Try.func14 (by kernel_rfl) (by kernel_rfl)

/-- epact/epactlaw18.PivotNear -/
def epactlaw18_PivotNear.c : SF := ⟨110, [.t 6],
  (.seq (.region [⟨(some 3), .box (.t 0), none⟩, ⟨(some 4), .box (.t 1), none⟩, ⟨(some 5), .box (.t 2), none⟩, ⟨(some 6), .mv (.k (.bool false)), none⟩])
  (.seq (.region [⟨(some 19), .load true 2 (.t 3) (some 3), none⟩, ⟨(some 20), .load true 2 (.t 4) (some 4), none⟩, ⟨(some 21), .load true 2 (.t 5) (some 5), none⟩, ⟨(some 22), .call 48 [(.t 19), (.t 20), (.t 21)], none⟩, ⟨(some 18), .mv (.t 22), none⟩, ⟨(some 23), .ext (.t 18) 0, none⟩, ⟨(some 24), .ext (.t 18) 1, none⟩, ⟨(some 7), .alloc [.v (.int .i64 0), .v (.int .u64 0)], none⟩, ⟨none, .store 2 (.t 7) (.t 23) 7, none⟩, ⟨(some 8), .mv (.t 24), none⟩])
  (.seq (.region [⟨(some 25), .load true 2 (.t 3) (some 3), none⟩, ⟨(some 26), .call 34 [(.t 25)], none⟩, ⟨(some 27), .load true 2 (.t 4) (some 4), none⟩, ⟨(some 28), .call 34 [(.t 27)], none⟩, ⟨(some 29), .load true 2 (.t 5) (some 5), none⟩, ⟨(some 30), .call 34 [(.t 29)], none⟩, ⟨(some 9), .alloc [.v (.bool false), .nil .i64], none⟩, ⟨(some 10), .alloc [.v (.bool false), .nil .i64], none⟩, ⟨(some 11), .alloc [.v (.bool false), .nil .i64], none⟩, ⟨none, .store 2 (.t 9) (.t 26) 9, none⟩, ⟨none, .store 2 (.t 10) (.t 28) 10, none⟩, ⟨none, .store 2 (.t 11) (.t 30) 11, none⟩])
  (.seq (.seq (.region [⟨(some 31), .load true 2 (.t 10) (some 10), none⟩, ⟨(some 32), .call 35 [(.k (.int .i64 0))], none⟩, ⟨(some 33), .call 24 [(.t 31), (.t 32)], none⟩, ⟨(some 34), .bin .leq (.t 33) (.k (.int .i64 0)), none⟩])
  (.cond (.t 34)
  (.seq (.region [⟨(some 35), .call 47 [], none⟩, ⟨(some 36), .mv (.t 35), none⟩, ⟨(some 37), .mv (.t 8), (some (36, true))⟩, ⟨(some 38), .bin .eql (.t 37) (.k (.int .i64 3)), (some (36, true))⟩, ⟨(some 39), .pick (.t 36) (.t 38) (.k (.bool false)), none⟩, ⟨(some 40), .mv (.t 39), none⟩, ⟨(some 41), .load true 2 (.t 7) (some 7), (some (40, true))⟩, ⟨(some 42), .build [.v (.int .i64 0), .v (.int .u64 0)] [], (some (40, true))⟩, ⟨(some 43), .eqs false [.i64, .u64] (.t 41) (.t 42), (some (40, true))⟩, ⟨(some 44), .pick (.t 40) (.t 43) (.k (.bool false)), none⟩, ⟨(some 6), .mv (.t 44), none⟩])
    .ret)
  .skip))
  (.seq (.seq (.region [⟨(some 45), .fld 0 (.t 9), none⟩, ⟨(some 46), .load false 1 (.t 45) (some 9), none⟩, ⟨(some 47), .mv (.t 46), none⟩, ⟨(some 48), .load true 2 (.t 9) (some 9), (some (47, false))⟩, ⟨(some 49), .load true 2 (.t 10) (some 10), (some (47, false))⟩, ⟨(some 50), .call 24 [(.t 48), (.t 49)], (some (47, false))⟩, ⟨(some 51), .bin .geq (.t 50) (.k (.int .i64 0)), (some (47, false))⟩, ⟨(some 52), .pick (.t 47) (.k (.bool true)) (.t 51), none⟩])
  (.cond (.t 52)
  (.seq (.region [⟨(some 53), .call 47 [], none⟩, ⟨(some 54), .mv (.t 53), none⟩, ⟨(some 55), .mv (.t 8), (some (54, true))⟩, ⟨(some 56), .bin .eql (.t 55) (.k (.int .i64 1)), (some (54, true))⟩, ⟨(some 57), .pick (.t 54) (.t 56) (.k (.bool false)), none⟩, ⟨(some 58), .mv (.t 57), none⟩, ⟨(some 59), .load true 2 (.t 7) (some 7), (some (58, true))⟩, ⟨(some 60), .build [.v (.int .i64 0), .v (.int .u64 0)] [], (some (58, true))⟩, ⟨(some 61), .eqs false [.i64, .u64] (.t 59) (.t 60), (some (58, true))⟩, ⟨(some 62), .pick (.t 58) (.t 61) (.k (.bool false)), none⟩, ⟨(some 6), .mv (.t 62), none⟩])
    .ret)
  .skip))
  (.seq (.region [⟨(some 64), .load true 2 (.t 10) (some 10), none⟩, ⟨(some 65), .call 35 [(.k (.int .i64 2))], none⟩, ⟨(some 66), .call 25 [(.t 64), (.t 65)], none⟩, ⟨(some 63), .mv (.t 66), none⟩, ⟨(some 67), .ext (.t 63) 0, none⟩, ⟨(some 68), .ext (.t 63) 1, none⟩, ⟨(some 12), .alloc [.v (.bool false), .nil .i64], none⟩, ⟨(some 13), .alloc [.v (.bool false), .nil .i64], none⟩, ⟨none, .store 2 (.t 12) (.t 67) 12, none⟩, ⟨none, .store 2 (.t 13) (.t 68) 13, none⟩])
  (.seq (.region [⟨(some 70), .load true 2 (.t 11) (some 11), none⟩, ⟨(some 71), .load true 2 (.t 12) (some 12), none⟩, ⟨(some 72), .call 29 [(.t 70), (.t 71)], none⟩, ⟨(some 73), .call 49 [(.t 72)], none⟩, ⟨(some 69), .mv (.t 73), none⟩, ⟨(some 74), .ext (.t 69) 0, none⟩, ⟨(some 75), .ext (.t 69) 1, none⟩, ⟨(some 14), .alloc [.v (.int .i64 0), .v (.int .u64 0)], none⟩, ⟨none, .store 2 (.t 14) (.t 74) 14, none⟩, ⟨(some 15), .mv (.t 75), none⟩])
  (.seq (.region [⟨(some 77), .load true 2 (.t 9) (some 9), none⟩, ⟨(some 78), .load true 2 (.t 10) (some 10), none⟩, ⟨(some 79), .load true 2 (.t 11) (some 11), none⟩, ⟨(some 80), .call 50 [(.t 77), (.t 78), (.t 79)], none⟩, ⟨(some 81), .call 49 [(.t 80)], none⟩, ⟨(some 76), .mv (.t 81), none⟩, ⟨(some 82), .ext (.t 76) 0, none⟩, ⟨(some 83), .ext (.t 76) 1, none⟩, ⟨(some 16), .alloc [.v (.int .i64 0), .v (.int .u64 0)], none⟩, ⟨none, .store 2 (.t 16) (.t 82) 16, none⟩, ⟨(some 17), .mv (.t 83), none⟩])
  (.seq (.seq (.region [⟨(some 84), .mv (.t 15), none⟩, ⟨(some 85), .not (.t 84), none⟩, ⟨(some 86), .mv (.t 85), none⟩, ⟨(some 87), .mv (.t 17), (some (86, false))⟩, ⟨(some 88), .not (.t 87), (some (86, false))⟩, ⟨(some 89), .pick (.t 86) (.k (.bool true)) (.t 88), none⟩])
  (.cond (.t 89)
  (.seq (.region [⟨(some 90), .call 47 [], none⟩, ⟨(some 91), .mv (.t 90), none⟩, ⟨(some 92), .mv (.t 8), (some (91, true))⟩, ⟨(some 93), .bin .eql (.t 92) (.k (.int .i64 2)), (some (91, true))⟩, ⟨(some 94), .pick (.t 91) (.t 93) (.k (.bool false)), none⟩, ⟨(some 95), .mv (.t 94), none⟩, ⟨(some 96), .load true 2 (.t 7) (some 7), (some (95, true))⟩, ⟨(some 97), .build [.v (.int .i64 0), .v (.int .u64 0)] [], (some (95, true))⟩, ⟨(some 98), .eqs false [.i64, .u64] (.t 96) (.t 97), (some (95, true))⟩, ⟨(some 99), .pick (.t 95) (.t 98) (.k (.bool false)), none⟩, ⟨(some 6), .mv (.t 99), none⟩])
    .ret)
  .skip))
  (.seq (.region [⟨(some 100), .call 47 [], none⟩, ⟨(some 101), .mv (.t 100), none⟩, ⟨(some 102), .mv (.t 8), (some (101, true))⟩, ⟨(some 103), .bin .eql (.t 102) (.k (.int .i64 0)), (some (101, true))⟩, ⟨(some 104), .pick (.t 101) (.t 103) (.k (.bool false)), none⟩, ⟨(some 105), .mv (.t 104), none⟩, ⟨(some 106), .load true 2 (.t 7) (some 7), (some (105, true))⟩, ⟨(some 107), .load true 2 (.t 16) (some 16), (some (105, true))⟩, ⟨(some 108), .eqs false [.i64, .u64] (.t 106) (.t 107), (some (105, true))⟩, ⟨(some 109), .pick (.t 105) (.t 108) (.k (.bool false)), none⟩, ⟨(some 6), .mv (.t 109), none⟩])
  .ret))))))))))⟩
theorem epactlaw18_PivotNear.chk : chkFn Try.prog Try.f15 epactlaw18_PivotNear.c = true := by kernel_rfl
theorem epactlaw18_PivotNear.ent : ∀ args w, (callFunc 15 args).run Try.prog w = .ok (.enter 15 args) w := enters Try.func15 (by kernel_rfl) (by kernel_rfl)

/-- epact/epactlaw18.PivotOnly -/
def epactlaw18_PivotOnly.c : SF := ⟨105, [.t 6],
  (.seq (.region [⟨(some 3), .box (.t 0), none⟩, ⟨(some 4), .box (.t 1), none⟩, ⟨(some 5), .box (.t 2), none⟩, ⟨(some 6), .mv (.k (.bool false)), none⟩])
  (.seq (.region [⟨(some 19), .load true 2 (.t 3) (some 3), none⟩, ⟨(some 20), .load true 2 (.t 4) (some 4), none⟩, ⟨(some 21), .call 46 [(.t 19), (.t 20)], none⟩, ⟨(some 18), .mv (.t 21), none⟩, ⟨(some 22), .ext (.t 18) 0, none⟩, ⟨(some 23), .ext (.t 18) 1, none⟩, ⟨(some 7), .alloc [.v (.int .i64 0), .v (.int .u64 0)], none⟩, ⟨none, .store 2 (.t 7) (.t 22) 7, none⟩, ⟨(some 8), .mv (.t 23), none⟩])
  (.seq (.seq (.region [⟨(some 24), .mv (.t 8), none⟩, ⟨(some 25), .bin .neq (.t 24) (.k (.int .i64 0)), none⟩])
  (.cond (.t 25)
  (.seq (.region [⟨(some 26), .call 47 [], none⟩, ⟨(some 6), .mv (.t 26), none⟩])
    .ret)
  .skip))
  (.seq (.region [⟨(some 28), .load true 2 (.t 7) (some 7), none⟩, ⟨(some 29), .load true 2 (.t 4) (some 4), none⟩, ⟨(some 30), .load true 2 (.t 5) (some 5), none⟩, ⟨(some 31), .call 48 [(.t 28), (.t 29), (.t 30)], none⟩, ⟨(some 27), .mv (.t 31), none⟩, ⟨(some 32), .ext (.t 27) 0, none⟩, ⟨(some 33), .ext (.t 27) 1, none⟩, ⟨(some 9), .alloc [.v (.int .i64 0), .v (.int .u64 0)], none⟩, ⟨none, .store 2 (.t 9) (.t 32) 9, none⟩, ⟨(some 10), .mv (.t 33), none⟩])
  (.seq (.seq (.region [⟨(some 34), .mv (.t 10), none⟩, ⟨(some 35), .bin .neq (.t 34) (.k (.int .i64 0)), none⟩])
  (.cond (.t 35)
  (.seq (.region [⟨(some 36), .call 47 [], none⟩, ⟨(some 37), .mv (.t 36), none⟩, ⟨(some 38), .mv (.t 10), (some (37, true))⟩, ⟨(some 39), .bin .eql (.t 38) (.k (.int .i64 2)), (some (37, true))⟩, ⟨(some 40), .pick (.t 37) (.t 39) (.k (.bool false)), none⟩, ⟨(some 6), .mv (.t 40), none⟩])
    .ret)
  .skip))
  (.seq (.region [⟨(some 42), .load true 2 (.t 4) (some 4), none⟩, ⟨(some 43), .call 34 [(.t 42)], none⟩, ⟨(some 44), .call 35 [(.k (.int .i64 2))], none⟩, ⟨(some 45), .call 25 [(.t 43), (.t 44)], none⟩, ⟨(some 41), .mv (.t 45), none⟩, ⟨(some 46), .ext (.t 41) 0, none⟩, ⟨(some 47), .ext (.t 41) 1, none⟩, ⟨(some 11), .alloc [.v (.bool false), .nil .i64], none⟩, ⟨(some 12), .alloc [.v (.bool false), .nil .i64], none⟩, ⟨none, .store 2 (.t 11) (.t 46) 11, none⟩, ⟨none, .store 2 (.t 12) (.t 47) 12, none⟩])
  (.seq (.region [⟨(some 48), .load true 2 (.t 5) (some 5), none⟩, ⟨(some 49), .call 34 [(.t 48)], none⟩, ⟨(some 50), .load true 2 (.t 11) (some 11), none⟩, ⟨(some 51), .call 29 [(.t 49), (.t 50)], none⟩, ⟨(some 13), .alloc [.v (.bool false), .nil .i64], none⟩, ⟨none, .store 2 (.t 13) (.t 51) 13, none⟩])
  (.seq (.region [⟨(some 52), .load true 2 (.t 13) (some 13), none⟩, ⟨(some 53), .load true 2 (.t 4) (some 4), none⟩, ⟨(some 54), .call 34 [(.t 53)], none⟩, ⟨(some 55), .call 28 [(.t 52), (.t 54)], none⟩, ⟨(some 14), .alloc [.v (.bool false), .nil .i64], none⟩, ⟨none, .store 2 (.t 14) (.t 55) 14, none⟩])
  (.seq (.region [⟨(some 56), .load true 2 (.t 3) (some 3), none⟩, ⟨(some 57), .call 34 [(.t 56)], none⟩, ⟨(some 58), .load true 2 (.t 13) (some 13), none⟩, ⟨(some 59), .call 24 [(.t 57), (.t 58)], none⟩, ⟨(some 60), .bin .geq (.t 59) (.k (.int .i64 0)), none⟩, ⟨(some 61), .mv (.t 60), none⟩, ⟨(some 62), .load true 2 (.t 3) (some 3), (some (61, true))⟩, ⟨(some 63), .call 34 [(.t 62)], (some (61, true))⟩, ⟨(some 64), .load true 2 (.t 14) (some 14), (some (61, true))⟩, ⟨(some 65), .call 24 [(.t 63), (.t 64)], (some (61, true))⟩, ⟨(some 66), .bin .lss (.t 65) (.k (.int .i64 0)), (some (61, true))⟩, ⟨(some 67), .pick (.t 61) (.t 66) (.k (.bool false)), none⟩, ⟨(some 15), .mv (.t 67), none⟩])
  (.seq (.region [⟨(some 69), .load true 2 (.t 9) (some 9), none⟩, ⟨(some 70), .load true 2 (.t 4) (some 4), none⟩, ⟨(some 71), .call 46 [(.t 69), (.t 70)], none⟩, ⟨(some 68), .mv (.t 71), none⟩, ⟨(some 72), .ext (.t 68) 0, none⟩, ⟨(some 73), .ext (.t 68) 1, none⟩, ⟨(some 16), .alloc [.v (.int .i64 0), .v (.int .u64 0)], none⟩, ⟨none, .store 2 (.t 16) (.t 72) 16, none⟩, ⟨(some 17), .mv (.t 73), none⟩])
  (.seq (.region [⟨(some 74), .call 47 [], none⟩, ⟨(some 75), .mv (.t 74), none⟩, ⟨(some 76), .mv (.t 17), (some (75, true))⟩, ⟨(some 77), .bin .eql (.t 76) (.k (.int .i64 0)), (some (75, true))⟩, ⟨(some 78), .pick (.t 75) (.t 77) (.k (.bool false)), none⟩, ⟨(some 79), .mv (.t 78), none⟩, ⟨(some 80), .load true 2 (.t 16) (some 16), (some (79, true))⟩, ⟨(some 81), .load true 2 (.t 7) (some 7), (some (79, true))⟩, ⟨(some 82), .eqs false [.i64, .u64] (.t 80) (.t 81), (some (79, true))⟩, ⟨(some 83), .pick (.t 79) (.t 82) (.k (.bool false)), none⟩, ⟨(some 84), .mv (.t 83), none⟩, ⟨(some 85), .load true 2 (.t 9) (some 9), (some (84, true))⟩, ⟨(some 86), .load true 2 (.t 3) (some 3), (some (84, true))⟩, ⟨(some 87), .eqs false [.i64, .u64] (.t 85) (.t 86), (some (84, true))⟩, ⟨(some 88), .mv (.t 15), (some (84, true))⟩, ⟨(some 89), .eqb false (.t 87) (.t 88), (some (84, true))⟩, ⟨(some 90), .pick (.t 84) (.t 89) (.k (.bool false)), none⟩, ⟨(some 91), .mv (.t 90), none⟩, ⟨(some 92), .load true 2 (.t 9) (some 9), (some (91, true))⟩, ⟨(some 93), .call 34 [(.t 92)], (some (91, true))⟩, ⟨(some 94), .load true 2 (.t 13) (some 13), (some (91, true))⟩, ⟨(some 95), .call 24 [(.t 93), (.t 94)], (some (91, true))⟩, ⟨(some 96), .bin .geq (.t 95) (.k (.int .i64 0)), (some (91, true))⟩, ⟨(some 97), .pick (.t 91) (.t 96) (.k (.bool false)), none⟩, ⟨(some 98), .mv (.t 97), none⟩, ⟨(some 99), .load true 2 (.t 9) (some 9), (some (98, true))⟩, ⟨(some 100), .call 34 [(.t 99)], (some (98, true))⟩, ⟨(some 101), .load true 2 (.t 14) (some 14), (some (98, true))⟩, ⟨(some 102), .call 24 [(.t 100), (.t 101)], (some (98, true))⟩, ⟨(some 103), .bin .lss (.t 102) (.k (.int .i64 0)), (some (98, true))⟩, ⟨(some 104), .pick (.t 98) (.t 103) (.k (.bool false)), none⟩, ⟨(some 6), .mv (.t 104), none⟩])
  .ret)))))))))))⟩
theorem epactlaw18_PivotOnly.chk : chkFn Try.prog Try.f16 epactlaw18_PivotOnly.c = true := by kernel_rfl
theorem epactlaw18_PivotOnly.ent : ∀ args w, (callFunc 16 args).run Try.prog w = .ok (.enter 16 args) w := enters Try.func16 (by kernel_rfl) (by kernel_rfl)

/-- epact/epactlaw01.answers -/
def epactlaw01_answers.c : SF := ⟨41, [.t 0],
  (.seq (.region [⟨(some 0), .mv (.k (.bool false)), none⟩])
  (.seq (.region [⟨(some 7), .build [.v (.int .u64 0), .v (.int .u64 0)] [(1, 1, (.k (.int .u64 1)))], none⟩, ⟨(some 8), .build [.v (.int .u64 0), .v (.int .u64 0)] [(1, 1, (.k (.int .u64 1)))], none⟩, ⟨(some 9), .build [.v (.int .u64 0), .v (.int .u64 0)] [(1, 1, (.k (.int .u64 2)))], none⟩, ⟨(some 10), .call 23 [(.t 7), (.t 8), (.t 9)], none⟩, ⟨(some 6), .mv (.t 10), none⟩, ⟨(some 11), .ext (.t 6) 0, none⟩, ⟨(some 12), .ext (.t 6) 1, none⟩, ⟨(some 13), .ext (.t 6) 2, none⟩, ⟨(some 1), .alloc [.v (.int .u64 0), .v (.int .u64 0)], none⟩, ⟨(some 2), .alloc [.v (.int .u64 0), .v (.int .u64 0)], none⟩, ⟨none, .store 2 (.t 1) (.t 11) 1, none⟩, ⟨none, .store 2 (.t 2) (.t 12) 2, none⟩, ⟨(some 3), .mv (.t 13), none⟩])
  (.seq (.region [⟨(some 15), .build [.v (.int .u64 0), .v (.int .u64 0)] [(0, 1, (.k (.int .u64 1)))], none⟩, ⟨(some 16), .build [.v (.int .u64 0), .v (.int .u64 0)] [(0, 1, (.k (.int .u64 1)))], none⟩, ⟨(some 17), .call 17 [(.t 15), (.t 16)], none⟩, ⟨(some 14), .mv (.t 17), none⟩, ⟨(some 18), .ext (.t 14) 0, none⟩, ⟨(some 19), .ext (.t 14) 1, none⟩, ⟨(some 4), .alloc [.v (.int .u64 0), .v (.int .u64 0)], none⟩, ⟨(some 5), .alloc [.v (.int .u64 0), .v (.int .u64 0)], none⟩, ⟨none, .store 2 (.t 4) (.t 18) 4, none⟩, ⟨none, .store 2 (.t 5) (.t 19) 5, none⟩])
  (.seq (.region [⟨(some 20), .mv (.t 3), none⟩, ⟨(some 21), .mv (.t 20), none⟩, ⟨(some 22), .load true 2 (.t 1) (some 1), (some (21, true))⟩, ⟨(some 23), .build [.v (.int .u64 0), .v (.int .u64 0)] [(0, 1, (.k (.int .u64 9223372036854775808)))], (some (21, true))⟩, ⟨(some 24), .eqs false [.u64, .u64] (.t 22) (.t 23), (some (21, true))⟩, ⟨(some 25), .pick (.t 21) (.t 24) (.k (.bool false)), none⟩, ⟨(some 26), .mv (.t 25), none⟩, ⟨(some 27), .load true 2 (.t 2) (some 2), (some (26, true))⟩, ⟨(some 28), .build [.v (.int .u64 0), .v (.int .u64 0)] [(1, 1, (.k (.int .u64 1)))], (some (26, true))⟩, ⟨(some 29), .eqs false [.u64, .u64] (.t 27) (.t 28), (some (26, true))⟩, ⟨(some 30), .pick (.t 26) (.t 29) (.k (.bool false)), none⟩, ⟨(some 31), .mv (.t 30), none⟩, ⟨(some 32), .load true 2 (.t 4) (some 4), (some (31, true))⟩, ⟨(some 33), .build [.v (.int .u64 0), .v (.int .u64 0)] [(1, 1, (.k (.int .u64 1)))], (some (31, true))⟩, ⟨(some 34), .eqs false [.u64, .u64] (.t 32) (.t 33), (some (31, true))⟩, ⟨(some 35), .pick (.t 31) (.t 34) (.k (.bool false)), none⟩, ⟨(some 36), .mv (.t 35), none⟩, ⟨(some 37), .load true 2 (.t 5) (some 5), (some (36, true))⟩, ⟨(some 38), .build [.v (.int .u64 0), .v (.int .u64 0)] [], (some (36, true))⟩, ⟨(some 39), .eqs false [.u64, .u64] (.t 37) (.t 38), (some (36, true))⟩, ⟨(some 40), .pick (.t 36) (.t 39) (.k (.bool false)), none⟩, ⟨(some 0), .mv (.t 40), none⟩])
  .ret))))⟩
theorem epactlaw01_answers.chk : chkFn Try.prog Try.f18 epactlaw01_answers.c = true := by kernel_rfl
theorem epactlaw01_answers.ent : ∀ args w, (callFunc 18 args).run Try.prog w = .ok (.enter 18 args) w := enters Try.func18 (by kernel_rfl) (by kernel_rfl)

/-- epact/epactref01.Same -/
def epactref01_Same.c : SF := ⟨9, [.t 4],
  (.seq (.region [⟨(some 2), .box (.t 0), none⟩, ⟨(some 3), .box (.t 1), none⟩, ⟨(some 4), .mv (.k (.bool false)), none⟩])
  (.seq (.region [⟨(some 5), .load true 2 (.t 2) (some 2), none⟩, ⟨(some 6), .load true 2 (.t 3) (some 3), none⟩, ⟨(some 7), .call 24 [(.t 5), (.t 6)], none⟩, ⟨(some 8), .bin .eql (.t 7) (.k (.int .i64 0)), none⟩, ⟨(some 4), .mv (.t 8), none⟩])
  .ret))⟩
theorem epactref01_Same.chk : chkFn Try.prog Try.f19 epactref01_Same.c = true := by kernel_rfl
theorem epactref01_Same.ent : ∀ args w, (callFunc 19 args).run Try.prog w = .ok (.enter 19 args) w := enters Try.func19 (by kernel_rfl) (by kernel_rfl)

/-- epact/epactlaw01.both -/
def epactlaw01_both.c : SF := ⟨12, [.c 4 true 2],
  (.seq (.region [⟨(some 2), .box (.t 0), none⟩, ⟨(some 3), .box (.t 1), none⟩, ⟨(some 4), .alloc [.v (.bool false), .nil .i64], none⟩])
  (.seq (.region [⟨(some 5), .load true 2 (.t 2) (some 2), none⟩, ⟨(some 6), .call 22 [(.t 5)], none⟩, ⟨(some 7), .call 30 [(.k (.int .i64 128))], none⟩, ⟨(some 8), .call 21 [(.t 6), (.t 7)], none⟩, ⟨(some 9), .load true 2 (.t 3) (some 3), none⟩, ⟨(some 10), .call 22 [(.t 9)], none⟩, ⟨(some 11), .call 28 [(.t 8), (.t 10)], none⟩, ⟨none, .store 2 (.t 4) (.t 11) 4, none⟩])
  .ret))⟩
theorem epactlaw01_both.chk : chkFn Try.prog Try.f20 epactlaw01_both.c = true := by kernel_rfl
theorem epactlaw01_both.ent : ∀ args w, (callFunc 20 args).run Try.prog w = .ok (.enter 20 args) w := enters Try.func20 (by kernel_rfl) (by kernel_rfl)

/-- epact/epactref01.Mul -/
def epactref01_Mul.l1 : SC :=
  (.seq (.seq (.region [⟨(some 25), .mv (.t 8), none⟩, ⟨(some 26), .fld 1 (.t 3), none⟩, ⟨(some 27), .load false 1 (.t 26) (some 3), none⟩, ⟨(some 28), .len (.t 27), none⟩, ⟨(some 29), .bin .lss (.t 25) (.t 28), none⟩])
  (.cond (.t 29)
  .skip
  (.exit 2)))
  (.seq (.block 3
  (.seq (.region [⟨(some 32), .mv (.t 5), none⟩, ⟨(some 33), .mv (.t 6), none⟩, ⟨(some 34), .mv (.t 8), none⟩, ⟨(some 35), .bin .add (.t 33) (.t 34), none⟩, ⟨(some 36), .idx 1 (.t 32) (.t 35), none⟩, ⟨(some 37), .load false 1 (.t 36) (some 17), none⟩, ⟨(some 38), .fld 1 (.t 2), none⟩, ⟨(some 39), .load false 1 (.t 38) (some 2), none⟩, ⟨(some 40), .mv (.t 6), none⟩, ⟨(some 41), .idx 1 (.t 39) (.t 40), none⟩, ⟨(some 42), .load false 1 (.t 41) none, none⟩, ⟨(some 43), .fld 1 (.t 3), none⟩, ⟨(some 44), .load false 1 (.t 43) (some 3), none⟩, ⟨(some 45), .mv (.t 8), none⟩, ⟨(some 46), .idx 1 (.t 44) (.t 45), none⟩, ⟨(some 47), .load false 1 (.t 46) none, none⟩, ⟨(some 48), .bin .mul (.t 42) (.t 47), none⟩, ⟨(some 49), .bin .add (.t 37) (.t 48), none⟩, ⟨(some 50), .mv (.t 7), none⟩, ⟨(some 51), .bin .add (.t 49) (.t 50), none⟩, ⟨(some 9), .mv (.t 51), none⟩])
    (.seq (.region [⟨(some 52), .mv (.t 5), none⟩, ⟨(some 53), .mv (.t 6), none⟩, ⟨(some 54), .mv (.t 8), none⟩, ⟨(some 55), .bin .add (.t 53) (.t 54), none⟩, ⟨(some 56), .mv (.t 9), none⟩, ⟨(some 57), .bin .rem (.t 56) (.k (.int .i64 65536)), none⟩, ⟨(some 58), .idx 1 (.t 52) (.t 55), none⟩, ⟨none, .store 1 (.t 58) (.t 57) 17, none⟩])
    (.region [⟨(some 59), .mv (.t 9), none⟩, ⟨(some 60), .bin .quo (.t 59) (.k (.int .i64 65536)), none⟩, ⟨(some 7), .mv (.t 60), none⟩]))))
  (.region [⟨(some 30), .mv (.t 8), none⟩, ⟨(some 31), .bin .add (.t 30) (.k (.int .i64 1)), none⟩, ⟨(some 8), .mv (.t 31), none⟩])))
def epactref01_Mul.l2 : SC :=
  (.seq (.seq (.region [⟨(some 18), .mv (.t 6), none⟩, ⟨(some 19), .fld 1 (.t 2), none⟩, ⟨(some 20), .load false 1 (.t 19) (some 2), none⟩, ⟨(some 21), .len (.t 20), none⟩, ⟨(some 22), .bin .lss (.t 18) (.t 21), none⟩])
  (.cond (.t 22)
  .skip
  (.exit 0)))
  (.seq (.block 1
  (.seq (.region [⟨(some 7), .mv (.k (.int .i64 0)), none⟩])
    (.seq (.seq (.region [⟨(some 8), .mv (.k (.int .i64 0)), none⟩])
    (.block 2
    (.loop epactref01_Mul.l1)))
    (.region [⟨(some 61), .mv (.t 5), none⟩, ⟨(some 62), .mv (.t 6), none⟩, ⟨(some 63), .fld 1 (.t 3), none⟩, ⟨(some 64), .load false 1 (.t 63) (some 3), none⟩, ⟨(some 65), .len (.t 64), none⟩, ⟨(some 66), .bin .add (.t 62) (.t 65), none⟩, ⟨(some 67), .mv (.t 7), none⟩, ⟨(some 68), .idx 1 (.t 61) (.t 66), none⟩, ⟨none, .store 1 (.t 68) (.t 67) 17, none⟩]))))
  (.region [⟨(some 23), .mv (.t 6), none⟩, ⟨(some 24), .bin .add (.t 23) (.k (.int .i64 1)), none⟩, ⟨(some 6), .mv (.t 24), none⟩])))
def epactref01_Mul.c : SF := ⟨83, [.c 4 true 2],
  (.seq (.region [⟨(some 2), .box (.t 0), none⟩, ⟨(some 3), .box (.t 1), none⟩, ⟨(some 4), .alloc [.v (.bool false), .nil .i64], none⟩])
  (.seq (.region [⟨(some 10), .fld 1 (.t 2), none⟩, ⟨(some 11), .load false 1 (.t 10) (some 2), none⟩, ⟨(some 12), .len (.t 11), none⟩, ⟨(some 13), .fld 1 (.t 3), none⟩, ⟨(some 14), .load false 1 (.t 13) (some 3), none⟩, ⟨(some 15), .len (.t 14), none⟩, ⟨(some 16), .bin .add (.t 12) (.t 15), none⟩, ⟨(some 17), .mkS ⟨3, 1, some .i64⟩ (.int .i64 0) (.t 16), none⟩, ⟨(some 5), .mv (.t 17), none⟩])
  (.seq (.seq (.region [⟨(some 6), .mv (.k (.int .i64 0)), none⟩])
  (.block 0
  (.loop epactref01_Mul.l2)))
  (.seq (.region [⟨(some 69), .mv (.t 5), none⟩, ⟨(some 70), .callR 52 [(.t 69)], none⟩, ⟨(some 5), .mv (.t 70), none⟩])
  (.seq (.region [⟨(some 71), .fld 0 (.t 2), none⟩, ⟨(some 72), .load false 1 (.t 71) (some 2), none⟩, ⟨(some 73), .fld 0 (.t 3), none⟩, ⟨(some 74), .load false 1 (.t 73) (some 3), none⟩, ⟨(some 75), .eqb true (.t 72) (.t 74), none⟩, ⟨(some 76), .mv (.t 75), none⟩, ⟨(some 77), .mv (.t 5), (some (76, true))⟩, ⟨(some 78), .len (.t 77), (some (76, true))⟩, ⟨(some 79), .bin .gtr (.t 78) (.k (.int .i64 0)), (some (76, true))⟩, ⟨(some 80), .pick (.t 76) (.t 79) (.k (.bool false)), none⟩, ⟨(some 81), .mv (.t 5), none⟩, ⟨(some 82), .build [.v (.bool false), .nil .i64] [(0, 1, (.t 80)), (1, 1, (.t 81))], none⟩, ⟨none, .store 2 (.t 4) (.t 82) 4, none⟩])
  .ret)))))⟩
theorem epactref01_Mul.chk : chkFn Try.prog Try.f21 epactref01_Mul.c = true := by kernel_rfl
theorem epactref01_Mul.ent : ∀ args w, (callFunc 21 args).run Try.prog w = .ok (.enter 21 args) w := enters Try.func21 (by kernel_rfl) (by kernel_rfl)

/-- epact/epactlaw01.of -/
def epactlaw01_of.c : SF := ⟨12, [.c 2 true 2],
  (.seq (.region [⟨(some 1), .box (.t 0), none⟩, ⟨(some 2), .alloc [.v (.bool false), .nil .i64], none⟩])
  (.seq (.region [⟨(some 3), .fld 0 (.t 1), none⟩, ⟨(some 4), .load false 1 (.t 3) (some 1), none⟩, ⟨(some 5), .call 53 [(.t 4)], none⟩, ⟨(some 6), .call 30 [(.k (.int .i64 64))], none⟩, ⟨(some 7), .call 21 [(.t 5), (.t 6)], none⟩, ⟨(some 8), .fld 1 (.t 1), none⟩, ⟨(some 9), .load false 1 (.t 8) (some 1), none⟩, ⟨(some 10), .call 53 [(.t 9)], none⟩, ⟨(some 11), .call 28 [(.t 7), (.t 10)], none⟩, ⟨none, .store 2 (.t 2) (.t 11) 2, none⟩])
  .ret))⟩
theorem epactlaw01_of.chk : chkFn Try.prog Try.f22 epactlaw01_of.c = true := by kernel_rfl
theorem epactlaw01_of.ent : ∀ args w, (callFunc 22 args).run Try.prog w = .ok (.enter 22 args) w := enters Try.func22 (by kernel_rfl) (by kernel_rfl)

/-- epact/limb.Div -/
def limb_Div.l1 : SC :=
  (.seq (.region [⟨(some 31), .bin .lss (.t 30) (.k (.int .i64 128)), none⟩])
  (.seq (.cond (.t 31)
  .skip
  (.exit 0))
  (.seq (.block 1
  (.seq (.region [⟨(some 9), .mv (.k (.bool false)), none⟩])
    (.seq (.region [⟨(some 33), .load true 2 (.t 7) (some 7), none⟩, ⟨(some 34), .fld 0 (.t 4), none⟩, ⟨(some 35), .load false 1 (.t 34) (some 4), none⟩, ⟨(some 36), .bin .shr (.t 35) (.k (.int .u64 63)), none⟩, ⟨(some 37), .call 55 [(.t 33), (.t 36)], none⟩, ⟨(some 32), .mv (.t 37), none⟩, ⟨(some 38), .ext (.t 32) 0, none⟩, ⟨(some 39), .ext (.t 32) 1, none⟩, ⟨none, .store 2 (.t 7) (.t 38) 7, none⟩, ⟨(some 9), .mv (.t 39), none⟩])
    (.seq (.region [⟨(some 41), .load true 2 (.t 4) (some 4), none⟩, ⟨(some 42), .call 55 [(.t 41), (.k (.int .u64 0))], none⟩, ⟨(some 40), .mv (.t 42), none⟩, ⟨(some 43), .ext (.t 40) 0, none⟩, ⟨(some 44), .ext (.t 40) 1, none⟩, ⟨none, .store 2 (.t 4) (.t 43) 4, none⟩])
    (.seq (.region [⟨(some 46), .load true 2 (.t 6) (some 6), none⟩, ⟨(some 47), .call 55 [(.t 46), (.k (.int .u64 0))], none⟩, ⟨(some 45), .mv (.t 47), none⟩, ⟨(some 48), .ext (.t 45) 0, none⟩, ⟨(some 49), .ext (.t 45) 1, none⟩, ⟨none, .store 2 (.t 6) (.t 48) 6, none⟩])
    (.seq (.region [⟨(some 50), .mv (.t 9), none⟩, ⟨(some 51), .mv (.t 50), none⟩, ⟨(some 52), .load true 2 (.t 7) (some 7), (some (51, false))⟩, ⟨(some 53), .load true 2 (.t 5) (some 5), (some (51, false))⟩, ⟨(some 54), .call 31 [(.t 52), (.t 53)], (some (51, false))⟩, ⟨(some 55), .bin .geq (.t 54) (.k (.int .i64 0)), (some (51, false))⟩, ⟨(some 56), .pick (.t 51) (.k (.bool true)) (.t 55), none⟩])
    (.cond (.t 56)
    (.seq (.region [⟨(some 58), .load true 2 (.t 7) (some 7), none⟩, ⟨(some 59), .load true 2 (.t 5) (some 5), none⟩, ⟨(some 60), .call 27 [(.t 58), (.t 59)], none⟩, ⟨(some 57), .mv (.t 60), none⟩, ⟨(some 61), .ext (.t 57) 0, none⟩, ⟨(some 62), .ext (.t 57) 1, none⟩, ⟨none, .store 2 (.t 7) (.t 61) 7, none⟩])
      (.region [⟨(some 63), .fld 1 (.t 6), none⟩, ⟨(some 64), .load false 1 (.t 63) (some 6), none⟩, ⟨(some 65), .bin .or (.t 64) (.k (.int .u64 1)), none⟩, ⟨(some 66), .fld 1 (.t 6), none⟩, ⟨none, .store 1 (.t 66) (.t 65) 6, none⟩]))
    .skip)))))))
  (.region [⟨(some 67), .bin .add (.t 30) (.k (.int .i64 1)), none⟩, ⟨(some 30), .mv (.t 67), none⟩]))))
def limb_Div.c : SF := ⟨70, [.c 6 true 2, .c 7 true 2, .t 8],
  (.seq (.region [⟨(some 3), .box (.t 0), none⟩, ⟨(some 4), .box (.t 1), none⟩, ⟨(some 5), .box (.t 2), none⟩, ⟨(some 6), .alloc [.v (.int .u64 0), .v (.int .u64 0)], none⟩, ⟨(some 7), .alloc [.v (.int .u64 0), .v (.int .u64 0)], none⟩, ⟨(some 8), .mv (.k (.bool false)), none⟩])
  (.seq (.seq (.region [⟨(some 10), .load true 2 (.t 3) (some 3), none⟩, ⟨(some 11), .load true 2 (.t 5) (some 5), none⟩, ⟨(some 12), .call 31 [(.t 10), (.t 11)], none⟩, ⟨(some 13), .bin .geq (.t 12) (.k (.int .i64 0)), none⟩])
  (.cond (.t 13)
  (.seq (.region [⟨(some 14), .build [.v (.int .u64 0), .v (.int .u64 0)] [], none⟩, ⟨(some 15), .build [.v (.int .u64 0), .v (.int .u64 0)] [], none⟩, ⟨none, .store 2 (.t 6) (.t 14) 6, none⟩, ⟨none, .store 2 (.t 7) (.t 15) 7, none⟩, ⟨(some 8), .mv (.k (.bool false)), none⟩])
    .ret)
  .skip))
  (.seq (.seq (.region [⟨(some 16), .fld 0 (.t 5), none⟩, ⟨(some 17), .load false 1 (.t 16) (some 5), none⟩, ⟨(some 18), .bin .eql (.t 17) (.k (.int .u64 0)), none⟩])
  (.cond (.t 18)
  (.seq (.region [⟨(some 20), .load true 2 (.t 3) (some 3), none⟩, ⟨(some 21), .load true 2 (.t 4) (some 4), none⟩, ⟨(some 22), .fld 1 (.t 5), none⟩, ⟨(some 23), .load false 1 (.t 22) (some 5), none⟩, ⟨(some 24), .call 54 [(.t 20), (.t 21), (.t 23)], none⟩, ⟨(some 19), .mv (.t 24), none⟩, ⟨(some 25), .ext (.t 19) 0, none⟩, ⟨(some 26), .ext (.t 19) 1, none⟩, ⟨none, .store 2 (.t 6) (.t 25) 6, none⟩, ⟨none, .store 2 (.t 7) (.t 26) 7, none⟩])
    (.seq (.region [⟨(some 27), .load true 2 (.t 6) (some 6), none⟩, ⟨(some 28), .load true 2 (.t 7) (some 7), none⟩, ⟨none, .store 2 (.t 6) (.t 27) 6, none⟩, ⟨none, .store 2 (.t 7) (.t 28) 7, none⟩, ⟨(some 8), .mv (.k (.bool true)), none⟩])
    .ret))
  .skip))
  (.seq (.region [⟨(some 29), .load true 2 (.t 3) (some 3), none⟩, ⟨none, .store 2 (.t 7) (.t 29) 7, none⟩])
  (.seq (.seq (.region [⟨(some 30), .mv (.k (.int .i64 0)), none⟩])
  (.block 0
  (.loop limb_Div.l1)))
  (.seq (.region [⟨(some 68), .load true 2 (.t 6) (some 6), none⟩, ⟨(some 69), .load true 2 (.t 7) (some 7), none⟩, ⟨none, .store 2 (.t 6) (.t 68) 6, none⟩, ⟨none, .store 2 (.t 7) (.t 69) 7, none⟩, ⟨(some 8), .mv (.k (.bool true)), none⟩])
  .ret))))))⟩
theorem limb_Div.chk : chkFn Try.prog Try.f23 limb_Div.c = true := by kernel_rfl
theorem limb_Div.ent : ∀ args w, (callFunc 23 args).run Try.prog w = .ok (.enter 23 args) w := enters Try.func23 (by kernel_rfl) (by kernel_rfl)

/-- epact/epactref01.Cmp -/
def epactref01_Cmp.c : SF := ⟨24, [.t 4],
  (.seq (.region [⟨(some 2), .box (.t 0), none⟩, ⟨(some 3), .box (.t 1), none⟩, ⟨(some 4), .mv (.k (.int .i64 0)), none⟩])
  (.seq (.seq (.region [⟨(some 5), .fld 0 (.t 2), none⟩, ⟨(some 6), .load false 1 (.t 5) (some 2), none⟩, ⟨(some 7), .fld 0 (.t 3), none⟩, ⟨(some 8), .load false 1 (.t 7) (some 3), none⟩, ⟨(some 9), .eqb true (.t 6) (.t 8), none⟩])
  (.cond (.t 9)
  (.seq (.seq (.region [⟨(some 10), .fld 0 (.t 2), none⟩, ⟨(some 11), .load false 1 (.t 10) (some 2), none⟩])
    (.cond (.t 11)
    (.seq (.region [⟨(some 4), .mv (.k (.int .i64 (-1))), none⟩])
      .ret)
    .skip))
    (.seq (.region [⟨(some 4), .mv (.k (.int .i64 1)), none⟩])
    .ret))
  .skip))
  (.seq (.seq (.region [⟨(some 12), .fld 0 (.t 2), none⟩, ⟨(some 13), .load false 1 (.t 12) (some 2), none⟩])
  (.cond (.t 13)
  (.seq (.region [⟨(some 14), .fld 1 (.t 3), none⟩, ⟨(some 15), .load false 1 (.t 14) (some 3), none⟩, ⟨(some 16), .fld 1 (.t 2), none⟩, ⟨(some 17), .load false 1 (.t 16) (some 2), none⟩, ⟨(some 18), .call 56 [(.t 15), (.t 17)], none⟩, ⟨(some 4), .mv (.t 18), none⟩])
    .ret)
  .skip))
  (.seq (.region [⟨(some 19), .fld 1 (.t 2), none⟩, ⟨(some 20), .load false 1 (.t 19) (some 2), none⟩, ⟨(some 21), .fld 1 (.t 3), none⟩, ⟨(some 22), .load false 1 (.t 21) (some 3), none⟩, ⟨(some 23), .call 56 [(.t 20), (.t 22)], none⟩, ⟨(some 4), .mv (.t 23), none⟩])
  .ret))))⟩
theorem epactref01_Cmp.chk : chkFn Try.prog Try.f24 epactref01_Cmp.c = true := by kernel_rfl
theorem epactref01_Cmp.ent : ∀ args w, (callFunc 24 args).run Try.prog w = .ok (.enter 24 args) w := enters Try.func24 (by kernel_rfl) (by kernel_rfl)

/-- epact/epactref01.Div -/
def epactref01_Div.l1 : SC :=
  (.seq (.seq (.region [⟨(some 19), .mv (.t 8), none⟩, ⟨(some 20), .bin .geq (.t 19) (.k (.int .i64 0)), none⟩])
  (.cond (.t 20)
  .skip
  (.exit 0)))
  (.seq (.block 1
  (.seq (.region [⟨(some 23), .fld 1 (.t 2), none⟩, ⟨(some 24), .load false 1 (.t 23) (some 2), none⟩, ⟨(some 25), .mv (.t 8), none⟩, ⟨(some 26), .idx 1 (.t 24) (.t 25), none⟩, ⟨(some 27), .load false 1 (.t 26) none, none⟩, ⟨(some 28), .bldS ⟨3, 1, some .i64⟩ [.v (.int .i64 0)] 1 [(0, 1, (.t 27))], none⟩, ⟨(some 29), .mv (.t 7), none⟩, ⟨(some 30), .app ⟨3, 1, some .i64⟩ (.t 28) (.t 29), none⟩, ⟨(some 31), .callR 52 [(.t 30)], none⟩, ⟨(some 7), .mv (.t 31), none⟩])
    (.seq (.region [⟨(some 32), .mv (.t 6), none⟩, ⟨(some 33), .mv (.t 8), none⟩, ⟨(some 34), .mv (.t 7), none⟩, ⟨(some 35), .fld 1 (.t 3), none⟩, ⟨(some 36), .load false 1 (.t 35) (some 3), none⟩, ⟨(some 37), .call 57 [(.t 34), (.t 36)], none⟩, ⟨(some 38), .idx 1 (.t 32) (.t 33), none⟩, ⟨none, .store 1 (.t 38) (.t 37) 14, none⟩])
    (.region [⟨(some 39), .mv (.t 7), none⟩, ⟨(some 40), .fld 1 (.t 3), none⟩, ⟨(some 41), .load false 1 (.t 40) (some 3), none⟩, ⟨(some 42), .build [.v (.bool false), .nil .i64] [(1, 1, (.t 41))], none⟩, ⟨(some 43), .mv (.t 6), none⟩, ⟨(some 44), .mv (.t 8), none⟩, ⟨(some 45), .idx 1 (.t 43) (.t 44), none⟩, ⟨(some 46), .load false 1 (.t 45) (some 14), none⟩, ⟨(some 47), .cvt .u64 (.t 46), none⟩, ⟨(some 48), .call 53 [(.t 47)], none⟩, ⟨(some 49), .call 21 [(.t 42), (.t 48)], none⟩, ⟨(some 50), .part false 1 1 (.t 49), none⟩, ⟨(some 51), .call 58 [(.t 39), (.t 50)], none⟩, ⟨(some 7), .mv (.t 51), none⟩]))))
  (.region [⟨(some 21), .mv (.t 8), none⟩, ⟨(some 22), .bin .sub (.t 21) (.k (.int .i64 1)), none⟩, ⟨(some 8), .mv (.t 22), none⟩])))
def epactref01_Div.c : SF := ⟨75, [.c 4 true 2, .c 5 true 2],
  (.seq (.region [⟨(some 2), .box (.t 0), none⟩, ⟨(some 3), .box (.t 1), none⟩, ⟨(some 4), .alloc [.v (.bool false), .nil .i64], none⟩, ⟨(some 5), .alloc [.v (.bool false), .nil .i64], none⟩])
  (.seq (.region [⟨(some 11), .fld 1 (.t 2), none⟩, ⟨(some 12), .load false 1 (.t 11) (some 2), none⟩, ⟨(some 13), .len (.t 12), none⟩, ⟨(some 14), .mkS ⟨3, 1, some .i64⟩ (.int .i64 0) (.t 13), none⟩, ⟨(some 6), .mv (.t 14), none⟩])
  (.seq (.region [⟨(some 7), .mv (.nil .i64), none⟩])
  (.seq (.seq (.region [⟨(some 15), .fld 1 (.t 2), none⟩, ⟨(some 16), .load false 1 (.t 15) (some 2), none⟩, ⟨(some 17), .len (.t 16), none⟩, ⟨(some 18), .bin .sub (.t 17) (.k (.int .i64 1)), none⟩, ⟨(some 8), .mv (.t 18), none⟩])
  (.block 0
  (.loop epactref01_Div.l1)))
  (.seq (.region [⟨(some 52), .mv (.t 6), none⟩, ⟨(some 53), .callR 52 [(.t 52)], none⟩, ⟨(some 54), .build [.v (.bool false), .nil .i64] [(1, 1, (.t 53))], none⟩, ⟨(some 55), .mv (.t 7), none⟩, ⟨(some 56), .build [.v (.bool false), .nil .i64] [(1, 1, (.t 55))], none⟩, ⟨(some 9), .alloc [.v (.bool false), .nil .i64], none⟩, ⟨(some 10), .alloc [.v (.bool false), .nil .i64], none⟩, ⟨none, .store 2 (.t 9) (.t 54) 9, none⟩, ⟨none, .store 2 (.t 10) (.t 56) 10, none⟩])
  (.seq (.seq (.region [⟨(some 57), .fld 0 (.t 2), none⟩, ⟨(some 58), .load false 1 (.t 57) (some 2), none⟩, ⟨(some 59), .not (.t 58), none⟩])
  (.cond (.t 59)
  (.seq (.region [⟨(some 60), .load true 2 (.t 9) (some 9), none⟩, ⟨(some 61), .load true 2 (.t 10) (some 10), none⟩, ⟨none, .store 2 (.t 4) (.t 60) 4, none⟩, ⟨none, .store 2 (.t 5) (.t 61) 5, none⟩])
    .ret)
  .skip))
  (.seq (.region [⟨(some 62), .load true 2 (.t 9) (some 9), none⟩, ⟨(some 63), .call 45 [(.t 62)], none⟩, ⟨none, .store 2 (.t 9) (.t 63) 9, none⟩])
  (.seq (.seq (.region [⟨(some 64), .mv (.t 7), none⟩, ⟨(some 65), .len (.t 64), none⟩, ⟨(some 66), .bin .eql (.t 65) (.k (.int .i64 0)), none⟩])
  (.cond (.t 66)
  (.seq (.region [⟨(some 67), .load true 2 (.t 9) (some 9), none⟩, ⟨(some 68), .load true 2 (.t 10) (some 10), none⟩, ⟨none, .store 2 (.t 4) (.t 67) 4, none⟩, ⟨none, .store 2 (.t 5) (.t 68) 5, none⟩])
    .ret)
  .skip))
  (.seq (.region [⟨(some 69), .load true 2 (.t 9) (some 9), none⟩, ⟨(some 70), .call 53 [(.k (.int .u64 1))], none⟩, ⟨(some 71), .call 29 [(.t 69), (.t 70)], none⟩, ⟨(some 72), .load true 2 (.t 3) (some 3), none⟩, ⟨(some 73), .load true 2 (.t 10) (some 10), none⟩, ⟨(some 74), .call 29 [(.t 72), (.t 73)], none⟩, ⟨none, .store 2 (.t 4) (.t 71) 4, none⟩, ⟨none, .store 2 (.t 5) (.t 74) 5, none⟩])
  .ret)))))))))⟩
theorem epactref01_Div.chk : chkFn Try.prog Try.f25 epactref01_Div.c = true := by kernel_rfl
theorem epactref01_Div.ent : ∀ args w, (callFunc 25 args).run Try.prog w = .ok (.enter 25 args) w := enters Try.func25 (by kernel_rfl) (by kernel_rfl)

/-- epact/limb.Add -/
def limb_Add.c : SF := ⟨31, [.c 4 true 2, .t 5],
  (.seq (.region [⟨(some 2), .box (.t 0), none⟩, ⟨(some 3), .box (.t 1), none⟩, ⟨(some 4), .alloc [.v (.int .u64 0), .v (.int .u64 0)], none⟩, ⟨(some 5), .mv (.k (.bool false)), none⟩])
  (.seq (.region [⟨(some 10), .fld 1 (.t 2), none⟩, ⟨(some 11), .load false 1 (.t 10) (some 2), none⟩, ⟨(some 12), .fld 1 (.t 3), none⟩, ⟨(some 13), .load false 1 (.t 12) (some 3), none⟩, ⟨(some 14), .call 59 [(.t 11), (.t 13), (.k (.int .u64 0))], none⟩, ⟨(some 9), .mv (.t 14), none⟩, ⟨(some 15), .ext (.t 9) 0, none⟩, ⟨(some 16), .ext (.t 9) 1, none⟩, ⟨(some 6), .mv (.t 15), none⟩, ⟨(some 7), .mv (.t 16), none⟩])
  (.seq (.region [⟨(some 18), .fld 0 (.t 2), none⟩, ⟨(some 19), .load false 1 (.t 18) (some 2), none⟩, ⟨(some 20), .fld 0 (.t 3), none⟩, ⟨(some 21), .load false 1 (.t 20) (some 3), none⟩, ⟨(some 22), .mv (.t 7), none⟩, ⟨(some 23), .call 59 [(.t 19), (.t 21), (.t 22)], none⟩, ⟨(some 17), .mv (.t 23), none⟩, ⟨(some 24), .ext (.t 17) 0, none⟩, ⟨(some 25), .ext (.t 17) 1, none⟩, ⟨(some 8), .mv (.t 24), none⟩, ⟨(some 7), .mv (.t 25), none⟩])
  (.seq (.region [⟨(some 26), .mv (.t 8), none⟩, ⟨(some 27), .mv (.t 6), none⟩, ⟨(some 28), .build [.v (.int .u64 0), .v (.int .u64 0)] [(0, 1, (.t 26)), (1, 1, (.t 27))], none⟩, ⟨(some 29), .mv (.t 7), none⟩, ⟨(some 30), .bin .eql (.t 29) (.k (.int .u64 1)), none⟩, ⟨none, .store 2 (.t 4) (.t 28) 4, none⟩, ⟨(some 5), .mv (.t 30), none⟩])
  .ret))))⟩
theorem limb_Add.chk : chkFn Try.prog Try.f26 limb_Add.c = true := by kernel_rfl
theorem limb_Add.ent : ∀ args w, (callFunc 26 args).run Try.prog w = .ok (.enter 26 args) w := enters Try.func26 (by kernel_rfl) (by kernel_rfl)

/-- epact/limb.Sub -/
def limb_Sub.c : SF := ⟨31, [.c 4 true 2, .t 5],
  (.seq (.region [⟨(some 2), .box (.t 0), none⟩, ⟨(some 3), .box (.t 1), none⟩, ⟨(some 4), .alloc [.v (.int .u64 0), .v (.int .u64 0)], none⟩, ⟨(some 5), .mv (.k (.bool false)), none⟩])
  (.seq (.region [⟨(some 10), .fld 1 (.t 2), none⟩, ⟨(some 11), .load false 1 (.t 10) (some 2), none⟩, ⟨(some 12), .fld 1 (.t 3), none⟩, ⟨(some 13), .load false 1 (.t 12) (some 3), none⟩, ⟨(some 14), .call 60 [(.t 11), (.t 13), (.k (.int .u64 0))], none⟩, ⟨(some 9), .mv (.t 14), none⟩, ⟨(some 15), .ext (.t 9) 0, none⟩, ⟨(some 16), .ext (.t 9) 1, none⟩, ⟨(some 6), .mv (.t 15), none⟩, ⟨(some 7), .mv (.t 16), none⟩])
  (.seq (.region [⟨(some 18), .fld 0 (.t 2), none⟩, ⟨(some 19), .load false 1 (.t 18) (some 2), none⟩, ⟨(some 20), .fld 0 (.t 3), none⟩, ⟨(some 21), .load false 1 (.t 20) (some 3), none⟩, ⟨(some 22), .mv (.t 7), none⟩, ⟨(some 23), .call 60 [(.t 19), (.t 21), (.t 22)], none⟩, ⟨(some 17), .mv (.t 23), none⟩, ⟨(some 24), .ext (.t 17) 0, none⟩, ⟨(some 25), .ext (.t 17) 1, none⟩, ⟨(some 8), .mv (.t 24), none⟩, ⟨(some 7), .mv (.t 25), none⟩])
  (.seq (.region [⟨(some 26), .mv (.t 8), none⟩, ⟨(some 27), .mv (.t 6), none⟩, ⟨(some 28), .build [.v (.int .u64 0), .v (.int .u64 0)] [(0, 1, (.t 26)), (1, 1, (.t 27))], none⟩, ⟨(some 29), .mv (.t 7), none⟩, ⟨(some 30), .bin .eql (.t 29) (.k (.int .u64 1)), none⟩, ⟨none, .store 2 (.t 4) (.t 28) 4, none⟩, ⟨(some 5), .mv (.t 30), none⟩])
  .ret))))⟩
theorem limb_Sub.chk : chkFn Try.prog Try.f27 limb_Sub.c = true := by kernel_rfl
theorem limb_Sub.ent : ∀ args w, (callFunc 27 args).run Try.prog w = .ok (.enter 27 args) w := enters Try.func27 (by kernel_rfl) (by kernel_rfl)

/-- epact/epactref01.Add -/
def epactref01_Add.c : SF := ⟨41, [.c 4 true 2],
  (.seq (.region [⟨(some 2), .box (.t 0), none⟩, ⟨(some 3), .box (.t 1), none⟩, ⟨(some 4), .alloc [.v (.bool false), .nil .i64], none⟩])
  (.seq (.seq (.region [⟨(some 6), .fld 0 (.t 2), none⟩, ⟨(some 7), .load false 1 (.t 6) (some 2), none⟩, ⟨(some 8), .fld 0 (.t 3), none⟩, ⟨(some 9), .load false 1 (.t 8) (some 3), none⟩, ⟨(some 10), .eqb false (.t 7) (.t 9), none⟩])
  (.cond (.t 10)
  (.seq (.region [⟨(some 11), .fld 0 (.t 2), none⟩, ⟨(some 12), .load false 1 (.t 11) (some 2), none⟩, ⟨(some 13), .fld 1 (.t 2), none⟩, ⟨(some 14), .load false 1 (.t 13) (some 2), none⟩, ⟨(some 15), .fld 1 (.t 3), none⟩, ⟨(some 16), .load false 1 (.t 15) (some 3), none⟩, ⟨(some 17), .call 61 [(.t 14), (.t 16)], none⟩, ⟨(some 18), .build [.v (.bool false), .nil .i64] [(0, 1, (.t 12)), (1, 1, (.t 17))], none⟩, ⟨none, .store 2 (.t 4) (.t 18) 4, none⟩])
    .ret)
  .skip))
  (.seq (.seq (.region [⟨(some 19), .fld 1 (.t 2), none⟩, ⟨(some 20), .load false 1 (.t 19) (some 2), none⟩, ⟨(some 21), .fld 1 (.t 3), none⟩, ⟨(some 22), .load false 1 (.t 21) (some 3), none⟩, ⟨(some 23), .call 56 [(.t 20), (.t 22)], none⟩, ⟨(some 24), .bin .lss (.t 23) (.k (.int .i64 0)), none⟩])
  (.cond (.t 24)
  (.region [⟨(some 25), .load true 2 (.t 3) (some 3), none⟩, ⟨(some 26), .load true 2 (.t 2) (some 2), none⟩, ⟨none, .store 2 (.t 2) (.t 25) 2, none⟩, ⟨none, .store 2 (.t 3) (.t 26) 3, none⟩])
  .skip))
  (.seq (.region [⟨(some 27), .fld 1 (.t 2), none⟩, ⟨(some 28), .load false 1 (.t 27) (some 2), none⟩, ⟨(some 29), .fld 1 (.t 3), none⟩, ⟨(some 30), .load false 1 (.t 29) (some 3), none⟩, ⟨(some 31), .call 58 [(.t 28), (.t 30)], none⟩, ⟨(some 5), .mv (.t 31), none⟩])
  (.seq (.region [⟨(some 32), .fld 0 (.t 2), none⟩, ⟨(some 33), .load false 1 (.t 32) (some 2), none⟩, ⟨(some 34), .mv (.t 33), none⟩, ⟨(some 35), .mv (.t 5), (some (34, true))⟩, ⟨(some 36), .len (.t 35), (some (34, true))⟩, ⟨(some 37), .bin .gtr (.t 36) (.k (.int .i64 0)), (some (34, true))⟩, ⟨(some 38), .pick (.t 34) (.t 37) (.k (.bool false)), none⟩, ⟨(some 39), .mv (.t 5), none⟩, ⟨(some 40), .build [.v (.bool false), .nil .i64] [(0, 1, (.t 38)), (1, 1, (.t 39))], none⟩, ⟨none, .store 2 (.t 4) (.t 40) 4, none⟩])
  .ret)))))⟩
theorem epactref01_Add.chk : chkFn Try.prog Try.f28 epactref01_Add.c = true := by kernel_rfl
theorem epactref01_Add.ent : ∀ args w, (callFunc 28 args).run Try.prog w = .ok (.enter 28 args) w := enters Try.func28 (by kernel_rfl) (by kernel_rfl)

/-- epact/epactref01.Sub -/
def epactref01_Sub.c : SF := ⟨9, [.c 4 true 2],
  (.seq (.region [⟨(some 2), .box (.t 0), none⟩, ⟨(some 3), .box (.t 1), none⟩, ⟨(some 4), .alloc [.v (.bool false), .nil .i64], none⟩])
  (.seq (.region [⟨(some 5), .load true 2 (.t 2) (some 2), none⟩, ⟨(some 6), .load true 2 (.t 3) (some 3), none⟩, ⟨(some 7), .call 45 [(.t 6)], none⟩, ⟨(some 8), .call 28 [(.t 5), (.t 7)], none⟩, ⟨none, .store 2 (.t 4) (.t 8) 4, none⟩])
  .ret))⟩
theorem epactref01_Sub.chk : chkFn Try.prog Try.f29 epactref01_Sub.c = true := by kernel_rfl
theorem epactref01_Sub.ent : ∀ args w, (callFunc 29 args).run Try.prog w = .ok (.enter 29 args) w := enters Try.func29 (by kernel_rfl) (by kernel_rfl)

/-- epact/epactref01.Pow2 -/
def epactref01_Pow2.c : SF := ⟨18, [.c 2 true 2],
  (.seq (.region [⟨(some 2), .alloc [.v (.bool false), .nil .i64], none⟩])
  (.seq (.region [⟨(some 4), .mv (.t 0), none⟩, ⟨(some 5), .bin .quo (.t 4) (.k (.int .i64 16)), none⟩, ⟨(some 6), .bin .add (.t 5) (.k (.int .i64 1)), none⟩, ⟨(some 7), .mkS ⟨3, 1, some .i64⟩ (.int .i64 0) (.t 6), none⟩, ⟨(some 3), .mv (.t 7), none⟩])
  (.seq (.region [⟨(some 8), .mv (.t 3), none⟩, ⟨(some 9), .mv (.t 0), none⟩, ⟨(some 10), .bin .quo (.t 9) (.k (.int .i64 16)), none⟩, ⟨(some 11), .mv (.t 0), none⟩, ⟨(some 12), .bin .rem (.t 11) (.k (.int .i64 16)), none⟩, ⟨(some 13), .cvt .u64 (.t 12), none⟩, ⟨(some 14), .bin .shl (.k (.int .i64 1)) (.t 13), none⟩, ⟨(some 15), .idx 1 (.t 8) (.t 10), none⟩, ⟨none, .store 1 (.t 15) (.t 14) 7, none⟩])
  (.seq (.region [⟨(some 16), .mv (.t 3), none⟩, ⟨(some 17), .build [.v (.bool false), .nil .i64] [(1, 1, (.t 16))], none⟩, ⟨none, .store 2 (.t 2) (.t 17) 2, none⟩])
  .ret))))⟩
theorem epactref01_Pow2.chk : chkFn Try.prog Try.f30 epactref01_Pow2.c = true := by kernel_rfl
theorem epactref01_Pow2.ent : ∀ args w, (callFunc 30 args).run Try.prog w = .ok (.enter 30 args) w := enters Try.func30 (by kernel_rfl) (by kernel_rfl)

/-- epact/limb.Cmp -/
def limb_Cmp.c : SF := ⟨29, [.t 4],
  (.seq (.region [⟨(some 2), .box (.t 0), none⟩, ⟨(some 3), .box (.t 1), none⟩, ⟨(some 4), .mv (.k (.int .i64 0)), none⟩])
  (.seq (.block 0
  (.seq (.region [⟨(some 6), .load true 2 (.t 2) (some 2), none⟩, ⟨(some 7), .load true 2 (.t 3) (some 3), none⟩, ⟨(some 8), .eqs false [.u64, .u64] (.t 6) (.t 7), none⟩, ⟨(some 5), .mv (.t 8), none⟩])
    (.cond (.t 5)
    (.seq (.region [⟨(some 4), .mv (.k (.int .i64 0)), none⟩])
      .ret)
    (.seq (.region [⟨(some 10), .fld 0 (.t 2), none⟩, ⟨(some 11), .load false 1 (.t 10) (some 2), none⟩, ⟨(some 12), .fld 0 (.t 3), none⟩, ⟨(some 13), .load false 1 (.t 12) (some 3), none⟩, ⟨(some 14), .bin .lss (.t 11) (.t 13), none⟩, ⟨(some 15), .mv (.t 14), none⟩, ⟨(some 16), .fld 0 (.t 2), (some (15, false))⟩, ⟨(some 17), .load false 1 (.t 16) (some 2), (some (15, false))⟩, ⟨(some 18), .fld 0 (.t 3), (some (15, false))⟩, ⟨(some 19), .load false 1 (.t 18) (some 3), (some (15, false))⟩, ⟨(some 20), .bin .eql (.t 17) (.t 19), (some (15, false))⟩, ⟨(some 21), .mv (.t 20), (some (15, false))⟩, ⟨(some 22), .fld 1 (.t 2), (some (21, true))⟩, ⟨(some 23), .load false 1 (.t 22) (some 2), (some (21, true))⟩, ⟨(some 24), .fld 1 (.t 3), (some (21, true))⟩, ⟨(some 25), .load false 1 (.t 24) (some 3), (some (21, true))⟩, ⟨(some 26), .bin .lss (.t 23) (.t 25), (some (21, true))⟩, ⟨(some 27), .pick (.t 21) (.t 26) (.k (.bool false)), (some (15, false))⟩, ⟨(some 28), .pick (.t 15) (.k (.bool true)) (.t 27), none⟩, ⟨(some 9), .mv (.t 28), none⟩])
      (.cond (.t 9)
      (.seq (.region [⟨(some 4), .mv (.k (.int .i64 (-1))), none⟩])
        .ret)
      .skip)))))
  (.seq (.region [⟨(some 4), .mv (.k (.int .i64 1)), none⟩])
  .ret)))⟩
theorem limb_Cmp.chk : chkFn Try.prog Try.f31 limb_Cmp.c = true := by kernel_rfl
theorem limb_Cmp.ent : ∀ args w, (callFunc 31 args).run Try.prog w = .ok (.enter 31 args) w := enters Try.func31 (by kernel_rfl) (by kernel_rfl)

/-- epact/wide.Int -/
def wide_Int.c : SF := ⟨13, [.t 2, .t 3],
  (.seq (.region [⟨(some 1), .box (.t 0), none⟩, ⟨(some 2), .mv (.k (.int .i64 0)), none⟩, ⟨(some 3), .mv (.k (.int .i64 0)), none⟩])
  (.seq (.seq (.region [⟨(some 5), .fld 1 (.t 1), none⟩, ⟨(some 6), .load false 1 (.t 5) (some 1), none⟩, ⟨(some 7), .cvt .i64 (.t 6), none⟩, ⟨(some 4), .mv (.t 7), none⟩])
  (.seq (.region [⟨(some 8), .mv (.t 4), none⟩, ⟨(some 9), .call 33 [(.t 8)], none⟩, ⟨(some 10), .load true 2 (.t 1) (some 1), none⟩, ⟨(some 11), .eqs false [.i64, .u64] (.t 9) (.t 10), none⟩])
  (.cond (.t 11)
  (.seq (.region [⟨(some 12), .mv (.t 4), none⟩, ⟨(some 2), .mv (.t 12), none⟩, ⟨(some 3), .mv (.k (.int .i64 0)), none⟩])
    .ret)
  .skip)))
  (.seq (.region [⟨(some 2), .mv (.k (.int .i64 0)), none⟩, ⟨(some 3), .mv (.k (.int .i64 2)), none⟩])
  .ret)))⟩
theorem wide_Int.chk : chkFn Try.prog Try.f32 wide_Int.c = true := by kernel_rfl
theorem wide_Int.ent : ∀ args w, (callFunc 32 args).run Try.prog w = .ok (.enter 32 args) w := enters Try.func32 (by kernel_rfl) (by kernel_rfl)

/-- epact/wide.Of -/
def wide_Of.c : SF := ⟨8, [.c 2 true 2],
  (.seq (.region [⟨(some 2), .alloc [.v (.int .i64 0), .v (.int .u64 0)], none⟩])
  (.seq (.region [⟨(some 3), .mv (.t 0), none⟩, ⟨(some 4), .bin .shr (.t 3) (.k (.int .u64 63)), none⟩, ⟨(some 5), .mv (.t 0), none⟩, ⟨(some 6), .cvt .u64 (.t 5), none⟩, ⟨(some 7), .build [.v (.int .i64 0), .v (.int .u64 0)] [(0, 1, (.t 4)), (1, 1, (.t 6))], none⟩, ⟨none, .store 2 (.t 2) (.t 7) 2, none⟩])
  .ret))⟩
theorem wide_Of.chk : chkFn Try.prog Try.f33 wide_Of.c = true := by kernel_rfl
theorem wide_Of.ent : ∀ args w, (callFunc 33 args).run Try.prog w = .ok (.enter 33 args) w := enters Try.func33 (by kernel_rfl) (by kernel_rfl)

/-- epact/epactref01.Of -/
def epactref01_Of.c : SF := ⟨14, [.c 2 true 2],
  (.seq (.region [⟨(some 1), .box (.t 0), none⟩, ⟨(some 2), .alloc [.v (.bool false), .nil .i64], none⟩])
  (.seq (.region [⟨(some 4), .fld 0 (.t 1), none⟩, ⟨(some 5), .load false 1 (.t 4) (some 1), none⟩, ⟨(some 6), .call 35 [(.t 5)], none⟩, ⟨(some 3), .alloc [.v (.bool false), .nil .i64], none⟩, ⟨none, .store 2 (.t 3) (.t 6) 3, none⟩])
  (.seq (.region [⟨(some 7), .load true 2 (.t 3) (some 3), none⟩, ⟨(some 8), .call 30 [(.k (.int .i64 64))], none⟩, ⟨(some 9), .call 21 [(.t 7), (.t 8)], none⟩, ⟨(some 10), .fld 1 (.t 1), none⟩, ⟨(some 11), .load false 1 (.t 10) (some 1), none⟩, ⟨(some 12), .call 53 [(.t 11)], none⟩, ⟨(some 13), .call 28 [(.t 9), (.t 12)], none⟩, ⟨none, .store 2 (.t 2) (.t 13) 2, none⟩])
  .ret)))⟩
theorem epactref01_Of.chk : chkFn Try.prog Try.f34 epactref01_Of.c = true := by kernel_rfl
theorem epactref01_Of.ent : ∀ args w, (callFunc 34 args).run Try.prog w = .ok (.enter 34 args) w := enters Try.func34 (by kernel_rfl) (by kernel_rfl)

/-- epact/epactref01.Int -/
def epactref01_Int.c : SF := ⟨18, [.c 2 true 2],
  (.seq (.region [⟨(some 2), .alloc [.v (.bool false), .nil .i64], none⟩])
  (.seq (.seq (.region [⟨(some 4), .mv (.t 0), none⟩, ⟨(some 5), .bin .geq (.t 4) (.k (.int .i64 0)), none⟩])
  (.cond (.t 5)
  (.seq (.region [⟨(some 6), .mv (.t 0), none⟩, ⟨(some 7), .cvt .u64 (.t 6), none⟩, ⟨(some 8), .call 53 [(.t 7)], none⟩, ⟨none, .store 2 (.t 2) (.t 8) 2, none⟩])
    .ret)
  .skip))
  (.seq (.region [⟨(some 9), .mv (.t 0), none⟩, ⟨(some 10), .bin .add (.t 9) (.k (.int .i64 1)), none⟩, ⟨(some 11), .neg (.t 10), none⟩, ⟨(some 12), .cvt .u64 (.t 11), none⟩, ⟨(some 13), .call 53 [(.t 12)], none⟩, ⟨(some 3), .alloc [.v (.bool false), .nil .i64], none⟩, ⟨none, .store 2 (.t 3) (.t 13) 3, none⟩])
  (.seq (.region [⟨(some 14), .load true 2 (.t 3) (some 3), none⟩, ⟨(some 15), .call 53 [(.k (.int .u64 1))], none⟩, ⟨(some 16), .call 28 [(.t 14), (.t 15)], none⟩, ⟨(some 17), .call 45 [(.t 16)], none⟩, ⟨none, .store 2 (.t 2) (.t 17) 2, none⟩])
  .ret))))⟩
theorem epactref01_Int.chk : chkFn Try.prog Try.f35 epactref01_Int.c = true := by kernel_rfl
theorem epactref01_Int.ent : ∀ args w, (callFunc 35 args).run Try.prog w = .ok (.enter 35 args) w := enters Try.func35 (by kernel_rfl) (by kernel_rfl)

/-- epact/epactlaw02.answers -/
def epactlaw02_answers.c : SF := ⟨49, [.t 0],
  (.seq (.region [⟨(some 0), .mv (.k (.bool false)), none⟩])
  (.seq (.region [⟨(some 9), .call 33 [(.k (.int .i64 (-7)))], none⟩, ⟨(some 10), .call 33 [(.k (.int .i64 2))], none⟩, ⟨(some 11), .call 38 [(.t 9), (.t 10)], none⟩, ⟨(some 8), .mv (.t 11), none⟩, ⟨(some 12), .ext (.t 8) 0, none⟩, ⟨(some 13), .ext (.t 8) 1, none⟩, ⟨(some 14), .ext (.t 8) 2, none⟩, ⟨(some 1), .alloc [.v (.int .i64 0), .v (.int .u64 0)], none⟩, ⟨(some 2), .alloc [.v (.int .i64 0), .v (.int .u64 0)], none⟩, ⟨none, .store 2 (.t 1) (.t 12) 1, none⟩, ⟨none, .store 2 (.t 2) (.t 13) 2, none⟩, ⟨(some 3), .mv (.t 14), none⟩])
  (.seq (.region [⟨(some 16), .call 33 [(.k (.int .i64 (-9)))], none⟩, ⟨(some 17), .call 32 [(.t 16)], none⟩, ⟨(some 15), .mv (.t 17), none⟩, ⟨(some 18), .ext (.t 15) 0, none⟩, ⟨(some 19), .ext (.t 15) 1, none⟩, ⟨(some 4), .mv (.t 18), none⟩, ⟨(some 5), .mv (.t 19), none⟩])
  (.seq (.region [⟨(some 21), .build [.v (.int .i64 0), .v (.int .u64 0)] [(0, 1, (.k (.int .i64 (-9223372036854775808))))], none⟩, ⟨(some 22), .call 44 [(.t 21)], none⟩, ⟨(some 20), .mv (.t 22), none⟩, ⟨(some 23), .ext (.t 20) 0, none⟩, ⟨(some 24), .ext (.t 20) 1, none⟩, ⟨(some 6), .alloc [.v (.int .i64 0), .v (.int .u64 0)], none⟩, ⟨none, .store 2 (.t 6) (.t 23) 6, none⟩, ⟨(some 7), .mv (.t 24), none⟩])
  (.seq (.region [⟨(some 25), .mv (.t 3), none⟩, ⟨(some 26), .bin .eql (.t 25) (.k (.int .i64 0)), none⟩, ⟨(some 27), .mv (.t 26), none⟩, ⟨(some 28), .load true 2 (.t 1) (some 1), (some (27, true))⟩, ⟨(some 29), .call 33 [(.k (.int .i64 (-4)))], (some (27, true))⟩, ⟨(some 30), .eqs false [.i64, .u64] (.t 28) (.t 29), (some (27, true))⟩, ⟨(some 31), .pick (.t 27) (.t 30) (.k (.bool false)), none⟩, ⟨(some 32), .mv (.t 31), none⟩, ⟨(some 33), .load true 2 (.t 2) (some 2), (some (32, true))⟩, ⟨(some 34), .call 33 [(.k (.int .i64 1))], (some (32, true))⟩, ⟨(some 35), .eqs false [.i64, .u64] (.t 33) (.t 34), (some (32, true))⟩, ⟨(some 36), .pick (.t 32) (.t 35) (.k (.bool false)), none⟩, ⟨(some 37), .mv (.t 36), none⟩, ⟨(some 38), .mv (.t 4), (some (37, true))⟩, ⟨(some 39), .bin .eql (.t 38) (.k (.int .i64 (-9))), (some (37, true))⟩, ⟨(some 40), .pick (.t 37) (.t 39) (.k (.bool false)), none⟩, ⟨(some 41), .mv (.t 40), none⟩, ⟨(some 42), .mv (.t 5), (some (41, true))⟩, ⟨(some 43), .bin .eql (.t 42) (.k (.int .i64 0)), (some (41, true))⟩, ⟨(some 44), .pick (.t 41) (.t 43) (.k (.bool false)), none⟩, ⟨(some 45), .mv (.t 44), none⟩, ⟨(some 46), .mv (.t 7), (some (45, true))⟩, ⟨(some 47), .bin .eql (.t 46) (.k (.int .i64 2)), (some (45, true))⟩, ⟨(some 48), .pick (.t 45) (.t 47) (.k (.bool false)), none⟩, ⟨(some 0), .mv (.t 48), none⟩])
  .ret)))))⟩
theorem epactlaw02_answers.chk : chkFn Try.prog Try.f36 epactlaw02_answers.c = true := by kernel_rfl
theorem epactlaw02_answers.ent : ∀ args w, (callFunc 36 args).run Try.prog w = .ok (.enter 36 args) w := enters Try.func36 (by kernel_rfl) (by kernel_rfl)

/-- epact/wide.Cmp -/
def wide_Cmp.c : SF := ⟨29, [.t 4],
  (.seq (.region [⟨(some 2), .box (.t 0), none⟩, ⟨(some 3), .box (.t 1), none⟩, ⟨(some 4), .mv (.k (.int .i64 0)), none⟩])
  (.seq (.block 0
  (.seq (.region [⟨(some 6), .load true 2 (.t 2) (some 2), none⟩, ⟨(some 7), .load true 2 (.t 3) (some 3), none⟩, ⟨(some 8), .eqs false [.i64, .u64] (.t 6) (.t 7), none⟩, ⟨(some 5), .mv (.t 8), none⟩])
    (.cond (.t 5)
    (.seq (.region [⟨(some 4), .mv (.k (.int .i64 0)), none⟩])
      .ret)
    (.seq (.region [⟨(some 10), .fld 0 (.t 2), none⟩, ⟨(some 11), .load false 1 (.t 10) (some 2), none⟩, ⟨(some 12), .fld 0 (.t 3), none⟩, ⟨(some 13), .load false 1 (.t 12) (some 3), none⟩, ⟨(some 14), .bin .lss (.t 11) (.t 13), none⟩, ⟨(some 15), .mv (.t 14), none⟩, ⟨(some 16), .fld 0 (.t 2), (some (15, false))⟩, ⟨(some 17), .load false 1 (.t 16) (some 2), (some (15, false))⟩, ⟨(some 18), .fld 0 (.t 3), (some (15, false))⟩, ⟨(some 19), .load false 1 (.t 18) (some 3), (some (15, false))⟩, ⟨(some 20), .bin .eql (.t 17) (.t 19), (some (15, false))⟩, ⟨(some 21), .mv (.t 20), (some (15, false))⟩, ⟨(some 22), .fld 1 (.t 2), (some (21, true))⟩, ⟨(some 23), .load false 1 (.t 22) (some 2), (some (21, true))⟩, ⟨(some 24), .fld 1 (.t 3), (some (21, true))⟩, ⟨(some 25), .load false 1 (.t 24) (some 3), (some (21, true))⟩, ⟨(some 26), .bin .lss (.t 23) (.t 25), (some (21, true))⟩, ⟨(some 27), .pick (.t 21) (.t 26) (.k (.bool false)), (some (15, false))⟩, ⟨(some 28), .pick (.t 15) (.k (.bool true)) (.t 27), none⟩, ⟨(some 9), .mv (.t 28), none⟩])
      (.cond (.t 9)
      (.seq (.region [⟨(some 4), .mv (.k (.int .i64 (-1))), none⟩])
        .ret)
      .skip)))))
  (.seq (.region [⟨(some 4), .mv (.k (.int .i64 1)), none⟩])
  .ret)))⟩
theorem wide_Cmp.chk : chkFn Try.prog Try.f37 wide_Cmp.c = true := by kernel_rfl
theorem wide_Cmp.ent : ∀ args w, (callFunc 37 args).run Try.prog w = .ok (.enter 37 args) w := enters Try.func37 (by kernel_rfl) (by kernel_rfl)

/-- epact/wide.Div -/
def wide_Div.c : SF := ⟨14, [.c 4 true 2, .c 5 true 2, .t 6],
  (.seq (.region [⟨(some 2), .box (.t 0), none⟩, ⟨(some 3), .box (.t 1), none⟩, ⟨(some 4), .alloc [.v (.int .i64 0), .v (.int .u64 0)], none⟩, ⟨(some 5), .alloc [.v (.int .i64 0), .v (.int .u64 0)], none⟩, ⟨(some 6), .mv (.k (.int .i64 0)), none⟩])
  (.seq (.region [⟨(some 7), .load true 2 (.t 2) (some 2), none⟩, ⟨(some 8), .call 33 [(.k (.int .i64 1))], none⟩, ⟨(some 9), .load true 2 (.t 3) (some 3), none⟩, ⟨(some 10), .call 39 [(.t 7), (.t 8), (.t 9)], none⟩, ⟨(some 11), .ext (.t 10) 0, none⟩, ⟨(some 12), .ext (.t 10) 1, none⟩, ⟨(some 13), .ext (.t 10) 2, none⟩, ⟨none, .store 2 (.t 4) (.t 11) 4, none⟩, ⟨none, .store 2 (.t 5) (.t 12) 5, none⟩, ⟨(some 6), .mv (.t 13), none⟩])
  .ret))⟩
theorem wide_Div.chk : chkFn Try.prog Try.f38 wide_Div.c = true := by kernel_rfl
theorem wide_Div.ent : ∀ args w, (callFunc 38 args).run Try.prog w = .ok (.enter 38 args) w := enters Try.func38 (by kernel_rfl) (by kernel_rfl)

/-- epact/wide.MulDiv -/
def wide_MulDiv.c : SF := ⟨91, [.c 6 true 2, .c 7 true 2, .t 8],
  (.seq (.region [⟨(some 3), .box (.t 0), none⟩, ⟨(some 4), .box (.t 1), none⟩, ⟨(some 5), .box (.t 2), none⟩, ⟨(some 6), .alloc [.v (.int .i64 0), .v (.int .u64 0)], none⟩, ⟨(some 7), .alloc [.v (.int .i64 0), .v (.int .u64 0)], none⟩, ⟨(some 8), .mv (.k (.int .i64 0)), none⟩])
  (.seq (.seq (.region [⟨(some 17), .load true 2 (.t 5) (some 5), none⟩, ⟨(some 18), .call 62 [(.t 17)], none⟩, ⟨(some 19), .not (.t 18), none⟩])
  (.cond (.t 19)
  (.seq (.region [⟨(some 20), .load true 2 (.t 6) (some 6), none⟩, ⟨(some 21), .load true 2 (.t 7) (some 7), none⟩, ⟨none, .store 2 (.t 6) (.t 20) 6, none⟩, ⟨none, .store 2 (.t 7) (.t 21) 7, none⟩, ⟨(some 8), .mv (.k (.int .i64 3)), none⟩])
    .ret)
  .skip))
  (.seq (.region [⟨(some 23), .load true 2 (.t 3) (some 3), none⟩, ⟨(some 24), .call 63 [(.t 23)], none⟩, ⟨(some 25), .load true 2 (.t 4) (some 4), none⟩, ⟨(some 26), .call 63 [(.t 25)], none⟩, ⟨(some 27), .call 17 [(.t 24), (.t 26)], none⟩, ⟨(some 22), .mv (.t 27), none⟩, ⟨(some 28), .ext (.t 22) 0, none⟩, ⟨(some 29), .ext (.t 22) 1, none⟩, ⟨(some 9), .alloc [.v (.int .u64 0), .v (.int .u64 0)], none⟩, ⟨(some 10), .alloc [.v (.int .u64 0), .v (.int .u64 0)], none⟩, ⟨none, .store 2 (.t 9) (.t 28) 9, none⟩, ⟨none, .store 2 (.t 10) (.t 29) 10, none⟩])
  (.seq (.region [⟨(some 31), .load true 2 (.t 9) (some 9), none⟩, ⟨(some 32), .load true 2 (.t 10) (some 10), none⟩, ⟨(some 33), .load true 2 (.t 5) (some 5), none⟩, ⟨(some 34), .call 64 [(.t 33)], none⟩, ⟨(some 35), .call 23 [(.t 31), (.t 32), (.t 34)], none⟩, ⟨(some 30), .mv (.t 35), none⟩, ⟨(some 36), .ext (.t 30) 0, none⟩, ⟨(some 37), .ext (.t 30) 1, none⟩, ⟨(some 38), .ext (.t 30) 2, none⟩, ⟨(some 11), .alloc [.v (.int .u64 0), .v (.int .u64 0)], none⟩, ⟨(some 12), .alloc [.v (.int .u64 0), .v (.int .u64 0)], none⟩, ⟨none, .store 2 (.t 11) (.t 36) 11, none⟩, ⟨none, .store 2 (.t 12) (.t 37) 12, none⟩, ⟨(some 13), .mv (.t 38), none⟩])
  (.seq (.seq (.region [⟨(some 39), .mv (.t 13), none⟩, ⟨(some 40), .not (.t 39), none⟩])
  (.cond (.t 40)
  (.seq (.region [⟨(some 41), .load true 2 (.t 6) (some 6), none⟩, ⟨(some 42), .load true 2 (.t 7) (some 7), none⟩, ⟨none, .store 2 (.t 6) (.t 41) 6, none⟩, ⟨none, .store 2 (.t 7) (.t 42) 7, none⟩, ⟨(some 8), .mv (.k (.int .i64 2)), none⟩])
    .ret)
  .skip))
  (.seq (.region [⟨(some 43), .fld 0 (.t 3), none⟩, ⟨(some 44), .load false 1 (.t 43) (some 3), none⟩, ⟨(some 45), .bin .lss (.t 44) (.k (.int .i64 0)), none⟩, ⟨(some 46), .fld 0 (.t 4), none⟩, ⟨(some 47), .load false 1 (.t 46) (some 4), none⟩, ⟨(some 48), .bin .lss (.t 47) (.k (.int .i64 0)), none⟩, ⟨(some 49), .eqb true (.t 45) (.t 48), none⟩, ⟨(some 14), .mv (.t 49), none⟩])
  (.seq (.region [⟨(some 51), .load true 2 (.t 11) (some 11), none⟩, ⟨(some 52), .mv (.t 14), none⟩, ⟨(some 53), .call 65 [(.t 51), (.t 52)], none⟩, ⟨(some 50), .mv (.t 53), none⟩, ⟨(some 54), .ext (.t 50) 0, none⟩, ⟨(some 55), .ext (.t 50) 1, none⟩, ⟨none, .store 2 (.t 6) (.t 54) 6, none⟩, ⟨(some 8), .mv (.t 55), none⟩])
  (.seq (.seq (.region [⟨(some 56), .mv (.t 8), none⟩, ⟨(some 57), .bin .neq (.t 56) (.k (.int .i64 0)), none⟩])
  (.cond (.t 57)
  (.seq (.region [⟨(some 58), .load true 2 (.t 6) (some 6), none⟩, ⟨(some 59), .load true 2 (.t 7) (some 7), none⟩, ⟨(some 60), .mv (.t 8), none⟩, ⟨none, .store 2 (.t 6) (.t 58) 6, none⟩, ⟨none, .store 2 (.t 7) (.t 59) 7, none⟩, ⟨(some 8), .mv (.t 60), none⟩])
    .ret)
  .skip))
  (.seq (.seq (.region [⟨(some 61), .mv (.t 14), none⟩, ⟨(some 62), .not (.t 61), none⟩, ⟨(some 63), .mv (.t 62), none⟩, ⟨(some 64), .load true 2 (.t 12) (some 12), (some (63, false))⟩, ⟨(some 65), .build [.v (.int .u64 0), .v (.int .u64 0)] [], (some (63, false))⟩, ⟨(some 66), .eqs false [.u64, .u64] (.t 64) (.t 65), (some (63, false))⟩, ⟨(some 67), .pick (.t 63) (.k (.bool true)) (.t 66), none⟩])
  (.cond (.t 67)
  (.seq (.region [⟨(some 68), .load true 2 (.t 6) (some 6), none⟩, ⟨(some 69), .load true 2 (.t 12) (some 12), none⟩, ⟨(some 70), .call 66 [(.t 69)], none⟩, ⟨none, .store 2 (.t 6) (.t 68) 6, none⟩, ⟨none, .store 2 (.t 7) (.t 70) 7, none⟩, ⟨(some 8), .mv (.k (.int .i64 0)), none⟩])
    .ret)
  .skip))
  (.seq (.seq (.region [⟨(some 71), .load true 2 (.t 6) (some 6), none⟩, ⟨(some 72), .call 67 [(.t 71)], none⟩])
  (.cond (.t 72)
  (.seq (.region [⟨(some 73), .build [.v (.int .i64 0), .v (.int .u64 0)] [], none⟩, ⟨(some 74), .build [.v (.int .i64 0), .v (.int .u64 0)] [], none⟩, ⟨none, .store 2 (.t 6) (.t 73) 6, none⟩, ⟨none, .store 2 (.t 7) (.t 74) 7, none⟩, ⟨(some 8), .mv (.k (.int .i64 2)), none⟩])
    .ret)
  .skip))
  (.seq (.region [⟨(some 76), .load true 2 (.t 6) (some 6), none⟩, ⟨(some 77), .call 33 [(.k (.int .i64 1))], none⟩, ⟨(some 78), .call 43 [(.t 76), (.t 77)], none⟩, ⟨(some 75), .mv (.t 78), none⟩, ⟨(some 79), .ext (.t 75) 0, none⟩, ⟨(some 80), .ext (.t 75) 1, none⟩, ⟨none, .store 2 (.t 6) (.t 79) 6, none⟩])
  (.seq (.region [⟨(some 82), .load true 2 (.t 5) (some 5), none⟩, ⟨(some 83), .call 64 [(.t 82)], none⟩, ⟨(some 84), .load true 2 (.t 12) (some 12), none⟩, ⟨(some 85), .call 27 [(.t 83), (.t 84)], none⟩, ⟨(some 81), .mv (.t 85), none⟩, ⟨(some 86), .ext (.t 81) 0, none⟩, ⟨(some 87), .ext (.t 81) 1, none⟩, ⟨(some 15), .alloc [.v (.int .u64 0), .v (.int .u64 0)], none⟩, ⟨none, .store 2 (.t 15) (.t 86) 15, none⟩, ⟨(some 16), .mv (.t 87), none⟩])
  (.seq (.region [⟨(some 88), .load true 2 (.t 6) (some 6), none⟩, ⟨(some 89), .load true 2 (.t 15) (some 15), none⟩, ⟨(some 90), .call 66 [(.t 89)], none⟩, ⟨none, .store 2 (.t 6) (.t 88) 6, none⟩, ⟨none, .store 2 (.t 7) (.t 90) 7, none⟩, ⟨(some 8), .mv (.k (.int .i64 0)), none⟩])
  .ret)))))))))))))⟩
theorem wide_MulDiv.chk : chkFn Try.prog Try.f39 wide_MulDiv.c = true := by kernel_rfl
theorem wide_MulDiv.ent : ∀ args w, (callFunc 39 args).run Try.prog w = .ok (.enter 39 args) w := enters Try.func39 (by kernel_rfl) (by kernel_rfl)

/-- epact/epactlaw02.fits -/
def epactlaw02_fits.c : SF := ⟨30, [.t 6],
  (.seq (.region [⟨(some 3), .box (.t 0), none⟩, ⟨(some 5), .box (.t 2), none⟩, ⟨(some 6), .mv (.k (.bool false)), none⟩])
  (.seq (.region [⟨(some 10), .load true 2 (.t 5) (some 5), none⟩, ⟨(some 11), .call 49 [(.t 10)], none⟩, ⟨(some 9), .mv (.t 11), none⟩, ⟨(some 12), .ext (.t 9) 0, none⟩, ⟨(some 13), .ext (.t 9) 1, none⟩, ⟨(some 7), .alloc [.v (.int .i64 0), .v (.int .u64 0)], none⟩, ⟨none, .store 2 (.t 7) (.t 12) 7, none⟩, ⟨(some 8), .mv (.t 13), none⟩])
  (.seq (.seq (.region [⟨(some 14), .mv (.t 8), none⟩, ⟨(some 15), .not (.t 14), none⟩])
  (.cond (.t 15)
  (.seq (.region [⟨(some 16), .mv (.t 1), none⟩, ⟨(some 17), .bin .eql (.t 16) (.k (.int .i64 2)), none⟩, ⟨(some 18), .mv (.t 17), none⟩, ⟨(some 19), .load true 2 (.t 3) (some 3), (some (18, true))⟩, ⟨(some 20), .build [.v (.int .i64 0), .v (.int .u64 0)] [], (some (18, true))⟩, ⟨(some 21), .eqs false [.i64, .u64] (.t 19) (.t 20), (some (18, true))⟩, ⟨(some 22), .pick (.t 18) (.t 21) (.k (.bool false)), none⟩, ⟨(some 6), .mv (.t 22), none⟩])
    .ret)
  .skip))
  (.seq (.region [⟨(some 23), .mv (.t 1), none⟩, ⟨(some 24), .bin .eql (.t 23) (.k (.int .i64 0)), none⟩, ⟨(some 25), .mv (.t 24), none⟩, ⟨(some 26), .load true 2 (.t 3) (some 3), (some (25, true))⟩, ⟨(some 27), .load true 2 (.t 7) (some 7), (some (25, true))⟩, ⟨(some 28), .eqs false [.i64, .u64] (.t 26) (.t 27), (some (25, true))⟩, ⟨(some 29), .pick (.t 25) (.t 28) (.k (.bool false)), none⟩, ⟨(some 6), .mv (.t 29), none⟩])
  .ret))))⟩
theorem epactlaw02_fits.chk : chkFn Try.prog Try.f40 epactlaw02_fits.c = true := by kernel_rfl
theorem epactlaw02_fits.ent : ∀ args w, (callFunc 40 args).run Try.prog w = .ok (.enter 40 args) w := enters Try.func40 (by kernel_rfl) (by kernel_rfl)

/-- epact/wide.Mul -/
def wide_Mul.c : SF := ⟨31, [.c 4 true 2, .t 5],
  (.seq (.region [⟨(some 2), .box (.t 0), none⟩, ⟨(some 3), .box (.t 1), none⟩, ⟨(some 4), .alloc [.v (.int .i64 0), .v (.int .u64 0)], none⟩, ⟨(some 5), .mv (.k (.int .i64 0)), none⟩])
  (.seq (.region [⟨(some 9), .load true 2 (.t 2) (some 2), none⟩, ⟨(some 10), .call 63 [(.t 9)], none⟩, ⟨(some 11), .load true 2 (.t 3) (some 3), none⟩, ⟨(some 12), .call 63 [(.t 11)], none⟩, ⟨(some 13), .call 17 [(.t 10), (.t 12)], none⟩, ⟨(some 8), .mv (.t 13), none⟩, ⟨(some 14), .ext (.t 8) 0, none⟩, ⟨(some 15), .ext (.t 8) 1, none⟩, ⟨(some 6), .alloc [.v (.int .u64 0), .v (.int .u64 0)], none⟩, ⟨(some 7), .alloc [.v (.int .u64 0), .v (.int .u64 0)], none⟩, ⟨none, .store 2 (.t 6) (.t 14) 6, none⟩, ⟨none, .store 2 (.t 7) (.t 15) 7, none⟩])
  (.seq (.seq (.region [⟨(some 16), .load true 2 (.t 6) (some 6), none⟩, ⟨(some 17), .build [.v (.int .u64 0), .v (.int .u64 0)] [], none⟩, ⟨(some 18), .eqs true [.u64, .u64] (.t 16) (.t 17), none⟩])
  (.cond (.t 18)
  (.seq (.region [⟨(some 19), .build [.v (.int .i64 0), .v (.int .u64 0)] [], none⟩, ⟨none, .store 2 (.t 4) (.t 19) 4, none⟩, ⟨(some 5), .mv (.k (.int .i64 2)), none⟩])
    .ret)
  .skip))
  (.seq (.region [⟨(some 20), .load true 2 (.t 7) (some 7), none⟩, ⟨(some 21), .fld 0 (.t 2), none⟩, ⟨(some 22), .load false 1 (.t 21) (some 2), none⟩, ⟨(some 23), .bin .lss (.t 22) (.k (.int .i64 0)), none⟩, ⟨(some 24), .fld 0 (.t 3), none⟩, ⟨(some 25), .load false 1 (.t 24) (some 3), none⟩, ⟨(some 26), .bin .lss (.t 25) (.k (.int .i64 0)), none⟩, ⟨(some 27), .eqb true (.t 23) (.t 26), none⟩, ⟨(some 28), .call 65 [(.t 20), (.t 27)], none⟩, ⟨(some 29), .ext (.t 28) 0, none⟩, ⟨(some 30), .ext (.t 28) 1, none⟩, ⟨none, .store 2 (.t 4) (.t 29) 4, none⟩, ⟨(some 5), .mv (.t 30), none⟩])
  .ret))))⟩
theorem wide_Mul.chk : chkFn Try.prog Try.f41 wide_Mul.c = true := by kernel_rfl
theorem wide_Mul.ent : ∀ args w, (callFunc 41 args).run Try.prog w = .ok (.enter 41 args) w := enters Try.func41 (by kernel_rfl) (by kernel_rfl)

/-- epact/wide.Add -/
def wide_Add.c : SF := ⟨37, [.c 4 true 2, .t 5],
  (.seq (.region [⟨(some 2), .box (.t 0), none⟩, ⟨(some 3), .box (.t 1), none⟩, ⟨(some 4), .alloc [.v (.int .i64 0), .v (.int .u64 0)], none⟩, ⟨(some 5), .mv (.k (.int .i64 0)), none⟩])
  (.seq (.region [⟨(some 10), .load true 2 (.t 2) (some 2), none⟩, ⟨(some 11), .call 64 [(.t 10)], none⟩, ⟨(some 12), .load true 2 (.t 3) (some 3), none⟩, ⟨(some 13), .call 64 [(.t 12)], none⟩, ⟨(some 14), .call 26 [(.t 11), (.t 13)], none⟩, ⟨(some 9), .mv (.t 14), none⟩, ⟨(some 15), .ext (.t 9) 0, none⟩, ⟨(some 16), .ext (.t 9) 1, none⟩, ⟨(some 6), .alloc [.v (.int .u64 0), .v (.int .u64 0)], none⟩, ⟨none, .store 2 (.t 6) (.t 15) 6, none⟩, ⟨(some 7), .mv (.t 16), none⟩])
  (.seq (.region [⟨(some 17), .load true 2 (.t 6) (some 6), none⟩, ⟨(some 18), .call 66 [(.t 17)], none⟩, ⟨(some 8), .alloc [.v (.int .i64 0), .v (.int .u64 0)], none⟩, ⟨none, .store 2 (.t 8) (.t 18) 8, none⟩])
  (.seq (.seq (.region [⟨(some 19), .fld 0 (.t 2), none⟩, ⟨(some 20), .load false 1 (.t 19) (some 2), none⟩, ⟨(some 21), .bin .shr (.t 20) (.k (.int .u64 63)), none⟩, ⟨(some 22), .fld 0 (.t 3), none⟩, ⟨(some 23), .load false 1 (.t 22) (some 3), none⟩, ⟨(some 24), .bin .shr (.t 23) (.k (.int .u64 63)), none⟩, ⟨(some 25), .bin .eql (.t 21) (.t 24), none⟩, ⟨(some 26), .mv (.t 25), none⟩, ⟨(some 27), .fld 0 (.t 8), (some (26, true))⟩, ⟨(some 28), .load false 1 (.t 27) (some 8), (some (26, true))⟩, ⟨(some 29), .bin .shr (.t 28) (.k (.int .u64 63)), (some (26, true))⟩, ⟨(some 30), .fld 0 (.t 2), (some (26, true))⟩, ⟨(some 31), .load false 1 (.t 30) (some 2), (some (26, true))⟩, ⟨(some 32), .bin .shr (.t 31) (.k (.int .u64 63)), (some (26, true))⟩, ⟨(some 33), .bin .neq (.t 29) (.t 32), (some (26, true))⟩, ⟨(some 34), .pick (.t 26) (.t 33) (.k (.bool false)), none⟩])
  (.cond (.t 34)
  (.seq (.region [⟨(some 35), .build [.v (.int .i64 0), .v (.int .u64 0)] [], none⟩, ⟨none, .store 2 (.t 4) (.t 35) 4, none⟩, ⟨(some 5), .mv (.k (.int .i64 2)), none⟩])
    .ret)
  .skip))
  (.seq (.region [⟨(some 36), .load true 2 (.t 8) (some 8), none⟩, ⟨none, .store 2 (.t 4) (.t 36) 4, none⟩, ⟨(some 5), .mv (.k (.int .i64 0)), none⟩])
  .ret)))))⟩
theorem wide_Add.chk : chkFn Try.prog Try.f42 wide_Add.c = true := by kernel_rfl
theorem wide_Add.ent : ∀ args w, (callFunc 42 args).run Try.prog w = .ok (.enter 42 args) w := enters Try.func42 (by kernel_rfl) (by kernel_rfl)

/-- epact/wide.Sub -/
def wide_Sub.c : SF := ⟨37, [.c 4 true 2, .t 5],
  (.seq (.region [⟨(some 2), .box (.t 0), none⟩, ⟨(some 3), .box (.t 1), none⟩, ⟨(some 4), .alloc [.v (.int .i64 0), .v (.int .u64 0)], none⟩, ⟨(some 5), .mv (.k (.int .i64 0)), none⟩])
  (.seq (.region [⟨(some 10), .load true 2 (.t 2) (some 2), none⟩, ⟨(some 11), .call 64 [(.t 10)], none⟩, ⟨(some 12), .load true 2 (.t 3) (some 3), none⟩, ⟨(some 13), .call 64 [(.t 12)], none⟩, ⟨(some 14), .call 27 [(.t 11), (.t 13)], none⟩, ⟨(some 9), .mv (.t 14), none⟩, ⟨(some 15), .ext (.t 9) 0, none⟩, ⟨(some 16), .ext (.t 9) 1, none⟩, ⟨(some 6), .alloc [.v (.int .u64 0), .v (.int .u64 0)], none⟩, ⟨none, .store 2 (.t 6) (.t 15) 6, none⟩, ⟨(some 7), .mv (.t 16), none⟩])
  (.seq (.region [⟨(some 17), .load true 2 (.t 6) (some 6), none⟩, ⟨(some 18), .call 66 [(.t 17)], none⟩, ⟨(some 8), .alloc [.v (.int .i64 0), .v (.int .u64 0)], none⟩, ⟨none, .store 2 (.t 8) (.t 18) 8, none⟩])
  (.seq (.seq (.region [⟨(some 19), .fld 0 (.t 2), none⟩, ⟨(some 20), .load false 1 (.t 19) (some 2), none⟩, ⟨(some 21), .bin .shr (.t 20) (.k (.int .u64 63)), none⟩, ⟨(some 22), .fld 0 (.t 3), none⟩, ⟨(some 23), .load false 1 (.t 22) (some 3), none⟩, ⟨(some 24), .bin .shr (.t 23) (.k (.int .u64 63)), none⟩, ⟨(some 25), .bin .neq (.t 21) (.t 24), none⟩, ⟨(some 26), .mv (.t 25), none⟩, ⟨(some 27), .fld 0 (.t 8), (some (26, true))⟩, ⟨(some 28), .load false 1 (.t 27) (some 8), (some (26, true))⟩, ⟨(some 29), .bin .shr (.t 28) (.k (.int .u64 63)), (some (26, true))⟩, ⟨(some 30), .fld 0 (.t 2), (some (26, true))⟩, ⟨(some 31), .load false 1 (.t 30) (some 2), (some (26, true))⟩, ⟨(some 32), .bin .shr (.t 31) (.k (.int .u64 63)), (some (26, true))⟩, ⟨(some 33), .bin .neq (.t 29) (.t 32), (some (26, true))⟩, ⟨(some 34), .pick (.t 26) (.t 33) (.k (.bool false)), none⟩])
  (.cond (.t 34)
  (.seq (.region [⟨(some 35), .build [.v (.int .i64 0), .v (.int .u64 0)] [], none⟩, ⟨none, .store 2 (.t 4) (.t 35) 4, none⟩, ⟨(some 5), .mv (.k (.int .i64 2)), none⟩])
    .ret)
  .skip))
  (.seq (.region [⟨(some 36), .load true 2 (.t 8) (some 8), none⟩, ⟨none, .store 2 (.t 4) (.t 36) 4, none⟩, ⟨(some 5), .mv (.k (.int .i64 0)), none⟩])
  .ret)))))⟩
theorem wide_Sub.chk : chkFn Try.prog Try.f43 wide_Sub.c = true := by kernel_rfl
theorem wide_Sub.ent : ∀ args w, (callFunc 43 args).run Try.prog w = .ok (.enter 43 args) w := enters Try.func43 (by kernel_rfl) (by kernel_rfl)

/-- epact/wide.Neg -/
def wide_Neg.c : SF := ⟨12, [.c 2 true 2, .t 3],
  (.seq (.region [⟨(some 1), .box (.t 0), none⟩, ⟨(some 2), .alloc [.v (.int .i64 0), .v (.int .u64 0)], none⟩, ⟨(some 3), .mv (.k (.int .i64 0)), none⟩])
  (.seq (.region [⟨(some 4), .load true 2 (.t 1) (some 1), none⟩, ⟨(some 5), .call 63 [(.t 4)], none⟩, ⟨(some 6), .fld 0 (.t 1), none⟩, ⟨(some 7), .load false 1 (.t 6) (some 1), none⟩, ⟨(some 8), .bin .geq (.t 7) (.k (.int .i64 0)), none⟩, ⟨(some 9), .call 65 [(.t 5), (.t 8)], none⟩, ⟨(some 10), .ext (.t 9) 0, none⟩, ⟨(some 11), .ext (.t 9) 1, none⟩, ⟨none, .store 2 (.t 2) (.t 10) 2, none⟩, ⟨(some 3), .mv (.t 11), none⟩])
  .ret))⟩
theorem wide_Neg.chk : chkFn Try.prog Try.f44 wide_Neg.c = true := by kernel_rfl
theorem wide_Neg.ent : ∀ args w, (callFunc 44 args).run Try.prog w = .ok (.enter 44 args) w := enters Try.func44 (by kernel_rfl) (by kernel_rfl)

/-- epact/epactref01.Neg -/
def epactref01_Neg.c : SF := ⟨15, [.c 2 true 2],
  (.seq (.region [⟨(some 1), .box (.t 0), none⟩, ⟨(some 2), .alloc [.v (.bool false), .nil .i64], none⟩])
  (.seq (.region [⟨(some 3), .fld 0 (.t 1), none⟩, ⟨(some 4), .load false 1 (.t 3) (some 1), none⟩, ⟨(some 5), .not (.t 4), none⟩, ⟨(some 6), .mv (.t 5), none⟩, ⟨(some 7), .fld 1 (.t 1), (some (6, true))⟩, ⟨(some 8), .load false 1 (.t 7) (some 1), (some (6, true))⟩, ⟨(some 9), .len (.t 8), (some (6, true))⟩, ⟨(some 10), .bin .gtr (.t 9) (.k (.int .i64 0)), (some (6, true))⟩, ⟨(some 11), .pick (.t 6) (.t 10) (.k (.bool false)), none⟩, ⟨(some 12), .fld 1 (.t 1), none⟩, ⟨(some 13), .load false 1 (.t 12) (some 1), none⟩, ⟨(some 14), .build [.v (.bool false), .nil .i64] [(0, 1, (.t 11)), (1, 1, (.t 13))], none⟩, ⟨none, .store 2 (.t 2) (.t 14) 2, none⟩])
  .ret))⟩
theorem epactref01_Neg.chk : chkFn Try.prog Try.f45 epactref01_Neg.c = true := by kernel_rfl
theorem epactref01_Neg.ent : ∀ args w, (callFunc 45 args).run Try.prog w = .ok (.enter 45 args) w := enters Try.func45 (by kernel_rfl) (by kernel_rfl)

/-- epact/pivot.Fold -/
def pivot_Fold.c : SF := ⟨18, [.c 4 true 2, .t 5],
  (.seq (.region [⟨(some 2), .box (.t 0), none⟩, ⟨(some 3), .box (.t 1), none⟩, ⟨(some 4), .alloc [.v (.int .i64 0), .v (.int .u64 0)], none⟩, ⟨(some 5), .mv (.k (.int .i64 0)), none⟩])
  (.seq (.region [⟨(some 10), .load true 2 (.t 2) (some 2), none⟩, ⟨(some 11), .load true 2 (.t 3) (some 3), none⟩, ⟨(some 12), .call 38 [(.t 10), (.t 11)], none⟩, ⟨(some 9), .mv (.t 12), none⟩, ⟨(some 13), .ext (.t 9) 0, none⟩, ⟨(some 14), .ext (.t 9) 1, none⟩, ⟨(some 15), .ext (.t 9) 2, none⟩, ⟨(some 6), .alloc [.v (.int .i64 0), .v (.int .u64 0)], none⟩, ⟨(some 7), .alloc [.v (.int .i64 0), .v (.int .u64 0)], none⟩, ⟨none, .store 2 (.t 6) (.t 13) 6, none⟩, ⟨none, .store 2 (.t 7) (.t 14) 7, none⟩, ⟨(some 8), .mv (.t 15), none⟩])
  (.seq (.region [⟨(some 16), .load true 2 (.t 7) (some 7), none⟩, ⟨(some 17), .mv (.t 8), none⟩, ⟨none, .store 2 (.t 4) (.t 16) 4, none⟩, ⟨(some 5), .mv (.t 17), none⟩])
  .ret)))⟩
theorem pivot_Fold.chk : chkFn Try.prog Try.f46 pivot_Fold.c = true := by kernel_rfl
theorem pivot_Fold.ent : ∀ args w, (callFunc 46 args).run Try.prog w = .ok (.enter 46 args) w := enters Try.func46 (by kernel_rfl) (by kernel_rfl)

/-- epact/epactlaw18.answers -/
def epactlaw18_answers.c : SF := ⟨52, [.t 0],
  (.seq (.region [⟨(some 0), .mv (.k (.bool false)), none⟩])
  (.seq (.region [⟨(some 8), .call 33 [(.k (.int .i64 1))], none⟩, ⟨(some 9), .call 33 [(.k (.int .i64 10))], none⟩, ⟨(some 10), .call 33 [(.k (.int .i64 28))], none⟩, ⟨(some 11), .call 48 [(.t 8), (.t 9), (.t 10)], none⟩, ⟨(some 7), .mv (.t 11), none⟩, ⟨(some 12), .ext (.t 7) 0, none⟩, ⟨(some 13), .ext (.t 7) 1, none⟩, ⟨(some 1), .alloc [.v (.int .i64 0), .v (.int .u64 0)], none⟩, ⟨none, .store 2 (.t 1) (.t 12) 1, none⟩, ⟨(some 2), .mv (.t 13), none⟩])
  (.seq (.region [⟨(some 15), .call 33 [(.k (.int .i64 3))], none⟩, ⟨(some 16), .call 33 [(.k (.int .i64 10))], none⟩, ⟨(some 17), .call 33 [(.k (.int .i64 28))], none⟩, ⟨(some 18), .call 48 [(.t 15), (.t 16), (.t 17)], none⟩, ⟨(some 14), .mv (.t 18), none⟩, ⟨(some 19), .ext (.t 14) 0, none⟩, ⟨(some 20), .ext (.t 14) 1, none⟩, ⟨(some 3), .alloc [.v (.int .i64 0), .v (.int .u64 0)], none⟩, ⟨none, .store 2 (.t 3) (.t 19) 3, none⟩, ⟨(some 4), .mv (.t 20), none⟩])
  (.seq (.region [⟨(some 22), .call 33 [(.k (.int .i64 (-1)))], none⟩, ⟨(some 23), .call 33 [(.k (.int .i64 10))], none⟩, ⟨(some 24), .call 46 [(.t 22), (.t 23)], none⟩, ⟨(some 21), .mv (.t 24), none⟩, ⟨(some 25), .ext (.t 21) 0, none⟩, ⟨(some 26), .ext (.t 21) 1, none⟩, ⟨(some 5), .alloc [.v (.int .i64 0), .v (.int .u64 0)], none⟩, ⟨none, .store 2 (.t 5) (.t 25) 5, none⟩, ⟨(some 6), .mv (.t 26), none⟩])
  (.seq (.region [⟨(some 27), .mv (.t 2), none⟩, ⟨(some 28), .bin .eql (.t 27) (.k (.int .i64 0)), none⟩, ⟨(some 29), .mv (.t 28), none⟩, ⟨(some 30), .load true 2 (.t 1) (some 1), (some (29, true))⟩, ⟨(some 31), .call 33 [(.k (.int .i64 31))], (some (29, true))⟩, ⟨(some 32), .eqs false [.i64, .u64] (.t 30) (.t 31), (some (29, true))⟩, ⟨(some 33), .pick (.t 29) (.t 32) (.k (.bool false)), none⟩, ⟨(some 34), .mv (.t 33), none⟩, ⟨(some 35), .mv (.t 4), (some (34, true))⟩, ⟨(some 36), .bin .eql (.t 35) (.k (.int .i64 0)), (some (34, true))⟩, ⟨(some 37), .pick (.t 34) (.t 36) (.k (.bool false)), none⟩, ⟨(some 38), .mv (.t 37), none⟩, ⟨(some 39), .load true 2 (.t 3) (some 3), (some (38, true))⟩, ⟨(some 40), .call 33 [(.k (.int .i64 23))], (some (38, true))⟩, ⟨(some 41), .eqs false [.i64, .u64] (.t 39) (.t 40), (some (38, true))⟩, ⟨(some 42), .pick (.t 38) (.t 41) (.k (.bool false)), none⟩, ⟨(some 43), .mv (.t 42), none⟩, ⟨(some 44), .mv (.t 6), (some (43, true))⟩, ⟨(some 45), .bin .eql (.t 44) (.k (.int .i64 0)), (some (43, true))⟩, ⟨(some 46), .pick (.t 43) (.t 45) (.k (.bool false)), none⟩, ⟨(some 47), .mv (.t 46), none⟩, ⟨(some 48), .load true 2 (.t 5) (some 5), (some (47, true))⟩, ⟨(some 49), .call 33 [(.k (.int .i64 9))], (some (47, true))⟩, ⟨(some 50), .eqs false [.i64, .u64] (.t 48) (.t 49), (some (47, true))⟩, ⟨(some 51), .pick (.t 47) (.t 50) (.k (.bool false)), none⟩, ⟨(some 0), .mv (.t 51), none⟩])
  .ret)))))⟩
theorem epactlaw18_answers.chk : chkFn Try.prog Try.f47 epactlaw18_answers.c = true := by kernel_rfl
theorem epactlaw18_answers.ent : ∀ args w, (callFunc 47 args).run Try.prog w = .ok (.enter 47 args) w := enters Try.func47 (by kernel_rfl) (by kernel_rfl)

/-- epact/pivot.Near -/
def pivot_Near.c : SF := ⟨78, [.c 6 true 2, .t 7],
  (.seq (.region [⟨(some 3), .box (.t 0), none⟩, ⟨(some 4), .box (.t 1), none⟩, ⟨(some 5), .box (.t 2), none⟩, ⟨(some 6), .alloc [.v (.int .i64 0), .v (.int .u64 0)], none⟩, ⟨(some 7), .mv (.k (.int .i64 0)), none⟩])
  (.seq (.block 0
  (.seq (.region [⟨(some 18), .load true 2 (.t 4) (some 4), none⟩, ⟨(some 19), .call 33 [(.k (.int .i64 0))], none⟩, ⟨(some 20), .call 37 [(.t 18), (.t 19)], none⟩, ⟨(some 21), .bin .leq (.t 20) (.k (.int .i64 0)), none⟩, ⟨(some 17), .mv (.t 21), none⟩])
    (.cond (.t 17)
    (.seq (.region [⟨(some 22), .build [.v (.int .i64 0), .v (.int .u64 0)] [], none⟩, ⟨none, .store 2 (.t 6) (.t 22) 6, none⟩, ⟨(some 7), .mv (.k (.int .i64 3)), none⟩])
      .ret)
    (.seq (.region [⟨(some 24), .load true 2 (.t 3) (some 3), none⟩, ⟨(some 25), .call 33 [(.k (.int .i64 0))], none⟩, ⟨(some 26), .call 37 [(.t 24), (.t 25)], none⟩, ⟨(some 27), .bin .lss (.t 26) (.k (.int .i64 0)), none⟩, ⟨(some 28), .mv (.t 27), none⟩, ⟨(some 29), .load true 2 (.t 3) (some 3), (some (28, false))⟩, ⟨(some 30), .load true 2 (.t 4) (some 4), (some (28, false))⟩, ⟨(some 31), .call 37 [(.t 29), (.t 30)], (some (28, false))⟩, ⟨(some 32), .bin .geq (.t 31) (.k (.int .i64 0)), (some (28, false))⟩, ⟨(some 33), .pick (.t 28) (.k (.bool true)) (.t 32), none⟩, ⟨(some 23), .mv (.t 33), none⟩])
      (.cond (.t 23)
      (.seq (.region [⟨(some 34), .build [.v (.int .i64 0), .v (.int .u64 0)] [], none⟩, ⟨none, .store 2 (.t 6) (.t 34) 6, none⟩, ⟨(some 7), .mv (.k (.int .i64 1)), none⟩])
        .ret)
      .skip)))))
  (.seq (.region [⟨(some 36), .load true 2 (.t 4) (some 4), none⟩, ⟨(some 37), .call 33 [(.k (.int .i64 2))], none⟩, ⟨(some 38), .call 38 [(.t 36), (.t 37)], none⟩, ⟨(some 35), .mv (.t 38), none⟩, ⟨(some 39), .ext (.t 35) 0, none⟩, ⟨(some 40), .ext (.t 35) 1, none⟩, ⟨(some 41), .ext (.t 35) 2, none⟩, ⟨(some 8), .alloc [.v (.int .i64 0), .v (.int .u64 0)], none⟩, ⟨(some 9), .alloc [.v (.int .i64 0), .v (.int .u64 0)], none⟩, ⟨none, .store 2 (.t 8) (.t 39) 8, none⟩, ⟨none, .store 2 (.t 9) (.t 40) 9, none⟩, ⟨(some 10), .mv (.t 41), none⟩])
  (.seq (.region [⟨(some 43), .load true 2 (.t 5) (some 5), none⟩, ⟨(some 44), .load true 2 (.t 8) (some 8), none⟩, ⟨(some 45), .call 43 [(.t 43), (.t 44)], none⟩, ⟨(some 42), .mv (.t 45), none⟩, ⟨(some 46), .ext (.t 42) 0, none⟩, ⟨(some 47), .ext (.t 42) 1, none⟩, ⟨(some 11), .alloc [.v (.int .i64 0), .v (.int .u64 0)], none⟩, ⟨none, .store 2 (.t 11) (.t 46) 11, none⟩, ⟨(some 12), .mv (.t 47), none⟩])
  (.seq (.seq (.region [⟨(some 48), .mv (.t 12), none⟩, ⟨(some 49), .bin .neq (.t 48) (.k (.int .i64 0)), none⟩])
  (.cond (.t 49)
  (.seq (.region [⟨(some 50), .build [.v (.int .i64 0), .v (.int .u64 0)] [], none⟩, ⟨(some 51), .mv (.t 12), none⟩, ⟨none, .store 2 (.t 6) (.t 50) 6, none⟩, ⟨(some 7), .mv (.t 51), none⟩])
    .ret)
  .skip))
  (.seq (.region [⟨(some 53), .load true 2 (.t 11) (some 11), none⟩, ⟨(some 54), .load true 2 (.t 4) (some 4), none⟩, ⟨(some 55), .call 46 [(.t 53), (.t 54)], none⟩, ⟨(some 52), .mv (.t 55), none⟩, ⟨(some 56), .ext (.t 52) 0, none⟩, ⟨(some 57), .ext (.t 52) 1, none⟩, ⟨(some 13), .alloc [.v (.int .i64 0), .v (.int .u64 0)], none⟩, ⟨none, .store 2 (.t 13) (.t 56) 13, none⟩, ⟨(some 14), .mv (.t 57), none⟩])
  (.seq (.region [⟨(some 59), .load true 2 (.t 3) (some 3), none⟩, ⟨(some 60), .load true 2 (.t 13) (some 13), none⟩, ⟨(some 61), .call 43 [(.t 59), (.t 60)], none⟩, ⟨(some 58), .mv (.t 61), none⟩, ⟨(some 62), .ext (.t 58) 0, none⟩, ⟨(some 63), .ext (.t 58) 1, none⟩, ⟨(some 15), .alloc [.v (.int .i64 0), .v (.int .u64 0)], none⟩, ⟨none, .store 2 (.t 15) (.t 62) 15, none⟩, ⟨(some 16), .mv (.t 63), none⟩])
  (.seq (.seq (.region [⟨(some 64), .fld 0 (.t 15), none⟩, ⟨(some 65), .load false 1 (.t 64) (some 15), none⟩, ⟨(some 66), .bin .lss (.t 65) (.k (.int .i64 0)), none⟩])
  (.cond (.t 66)
  (.region [⟨(some 68), .load true 2 (.t 15) (some 15), none⟩, ⟨(some 69), .load true 2 (.t 4) (some 4), none⟩, ⟨(some 70), .call 42 [(.t 68), (.t 69)], none⟩, ⟨(some 67), .mv (.t 70), none⟩, ⟨(some 71), .ext (.t 67) 0, none⟩, ⟨(some 72), .ext (.t 67) 1, none⟩, ⟨none, .store 2 (.t 15) (.t 71) 15, none⟩])
  .skip))
  (.seq (.region [⟨(some 73), .load true 2 (.t 11) (some 11), none⟩, ⟨(some 74), .load true 2 (.t 15) (some 15), none⟩, ⟨(some 75), .call 42 [(.t 73), (.t 74)], none⟩, ⟨(some 76), .ext (.t 75) 0, none⟩, ⟨(some 77), .ext (.t 75) 1, none⟩, ⟨none, .store 2 (.t 6) (.t 76) 6, none⟩, ⟨(some 7), .mv (.t 77), none⟩])
  .ret)))))))))⟩
theorem pivot_Near.chk : chkFn Try.prog Try.f48 pivot_Near.c = true := by kernel_rfl
theorem pivot_Near.ent : ∀ args w, (callFunc 48 args).run Try.prog w = .ok (.enter 48 args) w := enters Try.func48 (by kernel_rfl) (by kernel_rfl)

/-- epact/epactref01.Wide -/
def epactref01_Wide.c : SF := ⟨33, [.c 2 true 2, .t 3],
  (.seq (.region [⟨(some 1), .box (.t 0), none⟩, ⟨(some 2), .alloc [.v (.int .i64 0), .v (.int .u64 0)], none⟩, ⟨(some 3), .mv (.k (.bool false)), none⟩])
  (.seq (.seq (.region [⟨(some 5), .load true 2 (.t 1) (some 1), none⟩, ⟨(some 6), .call 30 [(.k (.int .i64 127))], none⟩, ⟨(some 7), .call 24 [(.t 5), (.t 6)], none⟩, ⟨(some 8), .bin .geq (.t 7) (.k (.int .i64 0)), none⟩, ⟨(some 9), .mv (.t 8), none⟩, ⟨(some 10), .load true 2 (.t 1) (some 1), (some (9, false))⟩, ⟨(some 11), .call 30 [(.k (.int .i64 127))], (some (9, false))⟩, ⟨(some 12), .call 45 [(.t 11)], (some (9, false))⟩, ⟨(some 13), .call 24 [(.t 10), (.t 12)], (some (9, false))⟩, ⟨(some 14), .bin .lss (.t 13) (.k (.int .i64 0)), (some (9, false))⟩, ⟨(some 15), .pick (.t 9) (.k (.bool true)) (.t 14), none⟩])
  (.cond (.t 15)
  (.seq (.region [⟨(some 16), .build [.v (.int .i64 0), .v (.int .u64 0)] [], none⟩, ⟨none, .store 2 (.t 2) (.t 16) 2, none⟩, ⟨(some 3), .mv (.k (.bool false)), none⟩])
    .ret)
  .skip))
  (.seq (.region [⟨(some 17), .fld 1 (.t 1), none⟩, ⟨(some 18), .load false 1 (.t 17) (some 1), none⟩, ⟨(some 4), .mv (.t 18), none⟩])
  (.seq (.seq (.region [⟨(some 19), .fld 0 (.t 1), none⟩, ⟨(some 20), .load false 1 (.t 19) (some 1), none⟩])
  (.cond (.t 20)
  (.region [⟨(some 21), .call 30 [(.k (.int .i64 128))], none⟩, ⟨(some 22), .fld 1 (.t 1), none⟩, ⟨(some 23), .load false 1 (.t 22) (some 1), none⟩, ⟨(some 24), .build [.v (.bool false), .nil .i64] [(1, 1, (.t 23))], none⟩, ⟨(some 25), .call 29 [(.t 21), (.t 24)], none⟩, ⟨(some 26), .part false 1 1 (.t 25), none⟩, ⟨(some 4), .mv (.t 26), none⟩])
  .skip))
  (.seq (.region [⟨(some 27), .mv (.t 4), none⟩, ⟨(some 28), .call 68 [(.t 27), (.k (.int .i64 4))], none⟩, ⟨(some 29), .cvt .i64 (.t 28), none⟩, ⟨(some 30), .mv (.t 4), none⟩, ⟨(some 31), .call 68 [(.t 30), (.k (.int .i64 0))], none⟩, ⟨(some 32), .build [.v (.int .i64 0), .v (.int .u64 0)] [(0, 1, (.t 29)), (1, 1, (.t 31))], none⟩, ⟨none, .store 2 (.t 2) (.t 32) 2, none⟩, ⟨(some 3), .mv (.k (.bool true)), none⟩])
  .ret)))))⟩
theorem epactref01_Wide.chk : chkFn Try.prog Try.f49 epactref01_Wide.c = true := by kernel_rfl
theorem epactref01_Wide.ent : ∀ args w, (callFunc 49 args).run Try.prog w = .ok (.enter 49 args) w := enters Try.func49 (by kernel_rfl) (by kernel_rfl)

/-- epact/epactref15.Near -/
def epactref15_Near.c : SF := ⟨32, [.c 6 true 2],
  (.seq (.region [⟨(some 3), .box (.t 0), none⟩, ⟨(some 4), .box (.t 1), none⟩, ⟨(some 5), .box (.t 2), none⟩, ⟨(some 6), .alloc [.v (.bool false), .nil .i64], none⟩])
  (.seq (.region [⟨(some 13), .load true 2 (.t 4) (some 4), none⟩, ⟨(some 14), .call 35 [(.k (.int .i64 2))], none⟩, ⟨(some 15), .call 25 [(.t 13), (.t 14)], none⟩, ⟨(some 12), .mv (.t 15), none⟩, ⟨(some 16), .ext (.t 12) 0, none⟩, ⟨(some 17), .ext (.t 12) 1, none⟩, ⟨(some 7), .alloc [.v (.bool false), .nil .i64], none⟩, ⟨(some 8), .alloc [.v (.bool false), .nil .i64], none⟩, ⟨none, .store 2 (.t 7) (.t 16) 7, none⟩, ⟨none, .store 2 (.t 8) (.t 17) 8, none⟩])
  (.seq (.region [⟨(some 18), .load true 2 (.t 5) (some 5), none⟩, ⟨(some 19), .load true 2 (.t 7) (some 7), none⟩, ⟨(some 20), .call 29 [(.t 18), (.t 19)], none⟩, ⟨(some 9), .alloc [.v (.bool false), .nil .i64], none⟩, ⟨none, .store 2 (.t 9) (.t 20) 9, none⟩])
  (.seq (.region [⟨(some 22), .load true 2 (.t 3) (some 3), none⟩, ⟨(some 23), .load true 2 (.t 9) (some 9), none⟩, ⟨(some 24), .call 29 [(.t 22), (.t 23)], none⟩, ⟨(some 25), .load true 2 (.t 4) (some 4), none⟩, ⟨(some 26), .call 25 [(.t 24), (.t 25)], none⟩, ⟨(some 21), .mv (.t 26), none⟩, ⟨(some 27), .ext (.t 21) 0, none⟩, ⟨(some 28), .ext (.t 21) 1, none⟩, ⟨(some 10), .alloc [.v (.bool false), .nil .i64], none⟩, ⟨(some 11), .alloc [.v (.bool false), .nil .i64], none⟩, ⟨none, .store 2 (.t 10) (.t 27) 10, none⟩, ⟨none, .store 2 (.t 11) (.t 28) 11, none⟩])
  (.seq (.region [⟨(some 29), .load true 2 (.t 9) (some 9), none⟩, ⟨(some 30), .load true 2 (.t 11) (some 11), none⟩, ⟨(some 31), .call 28 [(.t 29), (.t 30)], none⟩, ⟨none, .store 2 (.t 6) (.t 31) 6, none⟩])
  .ret)))))⟩
theorem epactref15_Near.chk : chkFn Try.prog Try.f50 epactref15_Near.c = true := by kernel_rfl
theorem epactref15_Near.ent : ∀ args w, (callFunc 50 args).run Try.prog w = .ok (.enter 50 args) w := enters Try.func50 (by kernel_rfl) (by kernel_rfl)

/-- epact/epactref01.trim -/
def epactref01_trim.l1 : SC :=
  (.seq (.seq (.region [⟨(some 6), .mv (.t 3), none⟩, ⟨(some 7), .bin .gtr (.t 6) (.k (.int .i64 0)), none⟩, ⟨(some 8), .mv (.t 7), none⟩, ⟨(some 9), .mv (.t 0), (some (8, true))⟩, ⟨(some 10), .mv (.t 3), (some (8, true))⟩, ⟨(some 11), .bin .sub (.t 10) (.k (.int .i64 1)), (some (8, true))⟩, ⟨(some 12), .idx 1 (.t 9) (.t 11), (some (8, true))⟩, ⟨(some 13), .load false 1 (.t 12) none, (some (8, true))⟩, ⟨(some 14), .bin .eql (.t 13) (.k (.int .i64 0)), (some (8, true))⟩, ⟨(some 15), .pick (.t 8) (.t 14) (.k (.bool false)), none⟩])
  (.cond (.t 15)
  .skip
  (.exit 0)))
  (.block 1
  (.region [⟨(some 16), .mv (.t 3), none⟩, ⟨(some 17), .bin .sub (.t 16) (.k (.int .i64 1)), none⟩, ⟨(some 3), .mv (.t 17), none⟩])))
def epactref01_trim.c : SF := ⟨21, [.t 2],
  (.seq (.region [⟨(some 2), .mv (.nil .i64), none⟩])
  (.seq (.region [⟨(some 4), .mv (.t 0), none⟩, ⟨(some 5), .len (.t 4), none⟩, ⟨(some 3), .mv (.t 5), none⟩])
  (.seq (.block 0
  (.loop epactref01_trim.l1))
  (.seq (.region [⟨(some 18), .mv (.t 0), none⟩, ⟨(some 19), .mv (.t 3), none⟩, ⟨(some 20), .sl (.t 18) none (some (.t 19)), none⟩, ⟨(some 2), .mv (.t 20), none⟩])
  .ret))))⟩
theorem epactref01_trim.chk : chkFn Try.prog Try.f52 epactref01_trim.c = true := by kernel_rfl
theorem epactref01_trim.ent : ∀ args w, (callFunc 52 args).run Try.prog w = .ok (.enter 52 args) w := enters Try.func52 (by kernel_rfl) (by kernel_rfl)

/-- epact/epactref01.Word -/
def epactref01_Word.c : SF := ⟨20, [.c 2 true 2],
  (.seq (.region [⟨(some 2), .alloc [.v (.bool false), .nil .i64], none⟩])
  (.seq (.region [⟨(some 3), .mv (.t 0), none⟩, ⟨(some 4), .bin .and (.t 3) (.k (.int .u64 65535)), none⟩, ⟨(some 5), .cvt .i64 (.t 4), none⟩, ⟨(some 6), .mv (.t 0), none⟩, ⟨(some 7), .bin .shr (.t 6) (.k (.int .u64 16)), none⟩, ⟨(some 8), .bin .and (.t 7) (.k (.int .u64 65535)), none⟩, ⟨(some 9), .cvt .i64 (.t 8), none⟩, ⟨(some 10), .mv (.t 0), none⟩, ⟨(some 11), .bin .shr (.t 10) (.k (.int .u64 32)), none⟩, ⟨(some 12), .bin .and (.t 11) (.k (.int .u64 65535)), none⟩, ⟨(some 13), .cvt .i64 (.t 12), none⟩, ⟨(some 14), .mv (.t 0), none⟩, ⟨(some 15), .bin .shr (.t 14) (.k (.int .u64 48)), none⟩, ⟨(some 16), .cvt .i64 (.t 15), none⟩, ⟨(some 17), .bldS ⟨3, 1, some .i64⟩ [.v (.int .i64 0), .v (.int .i64 0), .v (.int .i64 0), .v (.int .i64 0)] 4 [(0, 1, (.t 5)), (1, 1, (.t 9)), (2, 1, (.t 13)), (3, 1, (.t 16))], none⟩, ⟨(some 18), .callR 52 [(.t 17)], none⟩, ⟨(some 19), .build [.v (.bool false), .nil .i64] [(1, 1, (.t 18))], none⟩, ⟨none, .store 2 (.t 2) (.t 19) 2, none⟩])
  .ret))⟩
theorem epactref01_Word.chk : chkFn Try.prog Try.f53 epactref01_Word.c = true := by kernel_rfl
theorem epactref01_Word.ent : ∀ args w, (callFunc 53 args).run Try.prog w = .ok (.enter 53 args) w := enters Try.func53 (by kernel_rfl) (by kernel_rfl)

/-- epact/limb.short -/
def limb_short.c : SF := ⟨33, [.c 6 true 2, .c 7 true 2],
  (.seq (.region [⟨(some 3), .box (.t 0), none⟩, ⟨(some 4), .box (.t 1), none⟩, ⟨(some 6), .alloc [.v (.int .u64 0), .v (.int .u64 0)], none⟩, ⟨(some 7), .alloc [.v (.int .u64 0), .v (.int .u64 0)], none⟩])
  (.seq (.region [⟨(some 12), .fld 1 (.t 3), none⟩, ⟨(some 13), .load false 1 (.t 12) (some 3), none⟩, ⟨(some 14), .fld 0 (.t 4), none⟩, ⟨(some 15), .load false 1 (.t 14) (some 4), none⟩, ⟨(some 16), .mv (.t 2), none⟩, ⟨(some 17), .call 70 [(.t 13), (.t 15), (.t 16)], none⟩, ⟨(some 11), .mv (.t 17), none⟩, ⟨(some 18), .ext (.t 11) 0, none⟩, ⟨(some 19), .ext (.t 11) 1, none⟩, ⟨(some 8), .mv (.t 18), none⟩, ⟨(some 9), .mv (.t 19), none⟩])
  (.seq (.region [⟨(some 21), .mv (.t 9), none⟩, ⟨(some 22), .fld 1 (.t 4), none⟩, ⟨(some 23), .load false 1 (.t 22) (some 4), none⟩, ⟨(some 24), .mv (.t 2), none⟩, ⟨(some 25), .call 70 [(.t 21), (.t 23), (.t 24)], none⟩, ⟨(some 20), .mv (.t 25), none⟩, ⟨(some 26), .ext (.t 20) 0, none⟩, ⟨(some 27), .ext (.t 20) 1, none⟩, ⟨(some 10), .mv (.t 26), none⟩, ⟨(some 9), .mv (.t 27), none⟩])
  (.seq (.region [⟨(some 28), .mv (.t 8), none⟩, ⟨(some 29), .mv (.t 10), none⟩, ⟨(some 30), .build [.v (.int .u64 0), .v (.int .u64 0)] [(0, 1, (.t 28)), (1, 1, (.t 29))], none⟩, ⟨(some 31), .mv (.t 9), none⟩, ⟨(some 32), .build [.v (.int .u64 0), .v (.int .u64 0)] [(0, 1, (.k (.int .u64 0))), (1, 1, (.t 31))], none⟩, ⟨none, .store 2 (.t 6) (.t 30) 6, none⟩, ⟨none, .store 2 (.t 7) (.t 32) 7, none⟩])
  .ret))))⟩
theorem limb_short.chk : chkFn Try.prog Try.f54 limb_short.c = true := by kernel_rfl
theorem limb_short.ent : ∀ args w, (callFunc 54 args).run Try.prog w = .ok (.enter 54 args) w := enters Try.func54 (by kernel_rfl) (by kernel_rfl)

/-- epact/limb.double -/
def limb_double.c : SF := ⟨23, [.c 4 true 2, .t 5],
  (.seq (.region [⟨(some 2), .box (.t 0), none⟩, ⟨(some 4), .alloc [.v (.int .u64 0), .v (.int .u64 0)], none⟩, ⟨(some 5), .mv (.k (.bool false)), none⟩])
  (.seq (.region [⟨(some 6), .fld 0 (.t 2), none⟩, ⟨(some 7), .load false 1 (.t 6) (some 2), none⟩, ⟨(some 8), .bin .shl (.t 7) (.k (.int .u64 1)), none⟩, ⟨(some 9), .fld 1 (.t 2), none⟩, ⟨(some 10), .load false 1 (.t 9) (some 2), none⟩, ⟨(some 11), .bin .shr (.t 10) (.k (.int .u64 63)), none⟩, ⟨(some 12), .bin .or (.t 8) (.t 11), none⟩, ⟨(some 13), .fld 1 (.t 2), none⟩, ⟨(some 14), .load false 1 (.t 13) (some 2), none⟩, ⟨(some 15), .bin .shl (.t 14) (.k (.int .u64 1)), none⟩, ⟨(some 16), .mv (.t 1), none⟩, ⟨(some 17), .bin .or (.t 15) (.t 16), none⟩, ⟨(some 18), .build [.v (.int .u64 0), .v (.int .u64 0)] [(0, 1, (.t 12)), (1, 1, (.t 17))], none⟩, ⟨(some 19), .fld 0 (.t 2), none⟩, ⟨(some 20), .load false 1 (.t 19) (some 2), none⟩, ⟨(some 21), .bin .shr (.t 20) (.k (.int .u64 63)), none⟩, ⟨(some 22), .bin .eql (.t 21) (.k (.int .u64 1)), none⟩, ⟨none, .store 2 (.t 4) (.t 18) 4, none⟩, ⟨(some 5), .mv (.t 22), none⟩])
  .ret))⟩
theorem limb_double.chk : chkFn Try.prog Try.f55 limb_double.c = true := by kernel_rfl
theorem limb_double.ent : ∀ args w, (callFunc 55 args).run Try.prog w = .ok (.enter 55 args) w := enters Try.func55 (by kernel_rfl) (by kernel_rfl)

/-- epact/epactref01.cmp -/
def epactref01_cmp.l1 : SC :=
  (.seq (.seq (.region [⟨(some 19), .mv (.t 5), none⟩, ⟨(some 20), .bin .geq (.t 19) (.k (.int .i64 0)), none⟩])
  (.cond (.t 20)
  .skip
  (.exit 0)))
  (.seq (.block 1
  (.seq (.seq (.region [⟨(some 23), .mv (.t 0), none⟩, ⟨(some 24), .mv (.t 5), none⟩, ⟨(some 25), .idx 1 (.t 23) (.t 24), none⟩, ⟨(some 26), .load false 1 (.t 25) none, none⟩, ⟨(some 27), .mv (.t 1), none⟩, ⟨(some 28), .mv (.t 5), none⟩, ⟨(some 29), .idx 1 (.t 27) (.t 28), none⟩, ⟨(some 30), .load false 1 (.t 29) none, none⟩, ⟨(some 31), .bin .lss (.t 26) (.t 30), none⟩])
    (.cond (.t 31)
    (.seq (.region [⟨(some 4), .mv (.k (.int .i64 (-1))), none⟩])
      .ret)
    .skip))
    (.seq (.region [⟨(some 32), .mv (.t 0), none⟩, ⟨(some 33), .mv (.t 5), none⟩, ⟨(some 34), .idx 1 (.t 32) (.t 33), none⟩, ⟨(some 35), .load false 1 (.t 34) none, none⟩, ⟨(some 36), .mv (.t 1), none⟩, ⟨(some 37), .mv (.t 5), none⟩, ⟨(some 38), .idx 1 (.t 36) (.t 37), none⟩, ⟨(some 39), .load false 1 (.t 38) none, none⟩, ⟨(some 40), .bin .gtr (.t 35) (.t 39), none⟩])
    (.cond (.t 40)
    (.seq (.region [⟨(some 4), .mv (.k (.int .i64 1)), none⟩])
      .ret)
    .skip))))
  (.region [⟨(some 21), .mv (.t 5), none⟩, ⟨(some 22), .bin .sub (.t 21) (.k (.int .i64 1)), none⟩, ⟨(some 5), .mv (.t 22), none⟩])))
def epactref01_cmp.c : SF := ⟨41, [.t 4],
  (.seq (.region [⟨(some 4), .mv (.k (.int .i64 0)), none⟩])
  (.seq (.seq (.region [⟨(some 6), .mv (.t 0), none⟩, ⟨(some 7), .len (.t 6), none⟩, ⟨(some 8), .mv (.t 1), none⟩, ⟨(some 9), .len (.t 8), none⟩, ⟨(some 10), .bin .neq (.t 7) (.t 9), none⟩])
  (.cond (.t 10)
  (.seq (.seq (.region [⟨(some 11), .mv (.t 0), none⟩, ⟨(some 12), .len (.t 11), none⟩, ⟨(some 13), .mv (.t 1), none⟩, ⟨(some 14), .len (.t 13), none⟩, ⟨(some 15), .bin .lss (.t 12) (.t 14), none⟩])
    (.cond (.t 15)
    (.seq (.region [⟨(some 4), .mv (.k (.int .i64 (-1))), none⟩])
      .ret)
    .skip))
    (.seq (.region [⟨(some 4), .mv (.k (.int .i64 1)), none⟩])
    .ret))
  .skip))
  (.seq (.seq (.region [⟨(some 16), .mv (.t 0), none⟩, ⟨(some 17), .len (.t 16), none⟩, ⟨(some 18), .bin .sub (.t 17) (.k (.int .i64 1)), none⟩, ⟨(some 5), .mv (.t 18), none⟩])
  (.block 0
  (.loop epactref01_cmp.l1)))
  (.seq (.region [⟨(some 4), .mv (.k (.int .i64 0)), none⟩])
  .ret))))⟩
theorem epactref01_cmp.chk : chkFn Try.prog Try.f56 epactref01_cmp.c = true := by kernel_rfl
theorem epactref01_cmp.ent : ∀ args w, (callFunc 56 args).run Try.prog w = .ok (.enter 56 args) w := enters Try.func56 (by kernel_rfl) (by kernel_rfl)

/-- epact/epactref01.digit -/
def epactref01_digit.l1 : SC :=
  (.seq (.seq (.region [⟨(some 8), .mv (.t 5), none⟩, ⟨(some 9), .mv (.t 6), none⟩, ⟨(some 10), .bin .lss (.t 8) (.t 9), none⟩])
  (.cond (.t 10)
  .skip
  (.exit 0)))
  (.block 1
  (.seq (.region [⟨(some 11), .mv (.t 5), none⟩, ⟨(some 12), .mv (.t 6), none⟩, ⟨(some 13), .bin .add (.t 11) (.t 12), none⟩, ⟨(some 14), .bin .add (.t 13) (.k (.int .i64 1)), none⟩, ⟨(some 15), .bin .quo (.t 14) (.k (.int .i64 2)), none⟩, ⟨(some 7), .mv (.t 15), none⟩])
    (.seq (.region [⟨(some 16), .mv (.t 1), none⟩, ⟨(some 17), .build [.v (.bool false), .nil .i64] [(1, 1, (.t 16))], none⟩, ⟨(some 18), .mv (.t 7), none⟩, ⟨(some 19), .cvt .u64 (.t 18), none⟩, ⟨(some 20), .call 53 [(.t 19)], none⟩, ⟨(some 21), .call 21 [(.t 17), (.t 20)], none⟩, ⟨(some 22), .part false 1 1 (.t 21), none⟩, ⟨(some 23), .mv (.t 0), none⟩, ⟨(some 24), .call 56 [(.t 22), (.t 23)], none⟩, ⟨(some 25), .bin .leq (.t 24) (.k (.int .i64 0)), none⟩])
    (.cond (.t 25)
    (.region [⟨(some 26), .mv (.t 7), none⟩, ⟨(some 5), .mv (.t 26), none⟩])
    (.region [⟨(some 27), .mv (.t 7), none⟩, ⟨(some 28), .bin .sub (.t 27) (.k (.int .i64 1)), none⟩, ⟨(some 6), .mv (.t 28), none⟩]))))))
def epactref01_digit.c : SF := ⟨30, [.t 4],
  (.seq (.region [⟨(some 4), .mv (.k (.int .i64 0)), none⟩])
  (.seq (.region [⟨(some 5), .mv (.k (.int .i64 0)), none⟩, ⟨(some 6), .mv (.k (.int .i64 65535)), none⟩])
  (.seq (.block 0
  (.loop epactref01_digit.l1))
  (.seq (.region [⟨(some 29), .mv (.t 5), none⟩, ⟨(some 4), .mv (.t 29), none⟩])
  .ret))))⟩
theorem epactref01_digit.chk : chkFn Try.prog Try.f57 epactref01_digit.c = true := by kernel_rfl
theorem epactref01_digit.ent : ∀ args w, (callFunc 57 args).run Try.prog w = .ok (.enter 57 args) w := enters Try.func57 (by kernel_rfl) (by kernel_rfl)

/-- epact/epactref01.sub -/
def epactref01_sub.l1 : SC :=
  (.seq (.seq (.region [⟨(some 9), .mv (.t 7), none⟩, ⟨(some 10), .mv (.t 0), none⟩, ⟨(some 11), .len (.t 10), none⟩, ⟨(some 12), .bin .lss (.t 9) (.t 11), none⟩])
  (.cond (.t 12)
  .skip
  (.exit 0)))
  (.seq (.block 1
  (.seq (.region [⟨(some 15), .mv (.t 0), none⟩, ⟨(some 16), .mv (.t 7), none⟩, ⟨(some 17), .idx 1 (.t 15) (.t 16), none⟩, ⟨(some 18), .load false 1 (.t 17) none, none⟩, ⟨(some 19), .mv (.t 6), none⟩, ⟨(some 20), .bin .sub (.t 18) (.t 19), none⟩, ⟨(some 8), .mv (.t 20), none⟩])
    (.seq (.seq (.region [⟨(some 21), .mv (.t 7), none⟩, ⟨(some 22), .mv (.t 1), none⟩, ⟨(some 23), .len (.t 22), none⟩, ⟨(some 24), .bin .lss (.t 21) (.t 23), none⟩])
    (.cond (.t 24)
    (.region [⟨(some 25), .mv (.t 8), none⟩, ⟨(some 26), .mv (.t 1), none⟩, ⟨(some 27), .mv (.t 7), none⟩, ⟨(some 28), .idx 1 (.t 26) (.t 27), none⟩, ⟨(some 29), .load false 1 (.t 28) none, none⟩, ⟨(some 30), .bin .sub (.t 25) (.t 29), none⟩, ⟨(some 8), .mv (.t 30), none⟩])
    .skip))
    (.seq (.region [⟨(some 6), .mv (.k (.int .i64 0)), none⟩])
    (.seq (.seq (.region [⟨(some 31), .mv (.t 8), none⟩, ⟨(some 32), .bin .lss (.t 31) (.k (.int .i64 0)), none⟩])
    (.cond (.t 32)
    (.region [⟨(some 33), .mv (.t 8), none⟩, ⟨(some 34), .bin .add (.t 33) (.k (.int .i64 65536)), none⟩, ⟨(some 8), .mv (.t 34), none⟩, ⟨(some 6), .mv (.k (.int .i64 1)), none⟩])
    .skip))
    (.region [⟨(some 35), .mv (.t 5), none⟩, ⟨(some 36), .mv (.t 8), none⟩, ⟨(some 37), .bldS ⟨3, 1, some .i64⟩ [.v (.int .i64 0)] 1 [(0, 1, (.t 36))], none⟩, ⟨(some 38), .app ⟨3, 1, some .i64⟩ (.t 35) (.t 37), none⟩, ⟨(some 5), .mv (.t 38), none⟩]))))))
  (.region [⟨(some 13), .mv (.t 7), none⟩, ⟨(some 14), .bin .add (.t 13) (.k (.int .i64 1)), none⟩, ⟨(some 7), .mv (.t 14), none⟩])))
def epactref01_sub.c : SF := ⟨41, [.t 4],
  (.seq (.region [⟨(some 4), .mv (.nil .i64), none⟩])
  (.seq (.region [⟨(some 5), .mv (.nil .i64), none⟩])
  (.seq (.region [⟨(some 6), .mv (.k (.int .i64 0)), none⟩])
  (.seq (.seq (.region [⟨(some 7), .mv (.k (.int .i64 0)), none⟩])
  (.block 0
  (.loop epactref01_sub.l1)))
  (.seq (.region [⟨(some 39), .mv (.t 5), none⟩, ⟨(some 40), .callR 52 [(.t 39)], none⟩, ⟨(some 4), .mv (.t 40), none⟩])
  .ret)))))⟩
theorem epactref01_sub.chk : chkFn Try.prog Try.f58 epactref01_sub.c = true := by kernel_rfl
theorem epactref01_sub.ent : ∀ args w, (callFunc 58 args).run Try.prog w = .ok (.enter 58 args) w := enters Try.func58 (by kernel_rfl) (by kernel_rfl)

/-- epact/epactref01.add -/
def epactref01_add.l1 : SC :=
  (.seq (.seq (.region [⟨(some 8), .mv (.t 7), none⟩, ⟨(some 9), .mv (.t 0), none⟩, ⟨(some 10), .len (.t 9), none⟩, ⟨(some 11), .bin .lss (.t 8) (.t 10), none⟩, ⟨(some 12), .mv (.t 11), none⟩, ⟨(some 13), .mv (.t 7), (some (12, false))⟩, ⟨(some 14), .mv (.t 1), (some (12, false))⟩, ⟨(some 15), .len (.t 14), (some (12, false))⟩, ⟨(some 16), .bin .lss (.t 13) (.t 15), (some (12, false))⟩, ⟨(some 17), .pick (.t 12) (.k (.bool true)) (.t 16), none⟩, ⟨(some 18), .mv (.t 17), none⟩, ⟨(some 19), .mv (.t 6), (some (18, false))⟩, ⟨(some 20), .bin .gtr (.t 19) (.k (.int .i64 0)), (some (18, false))⟩, ⟨(some 21), .pick (.t 18) (.k (.bool true)) (.t 20), none⟩])
  (.cond (.t 21)
  .skip
  (.exit 0)))
  (.seq (.block 1
  (.seq (.seq (.region [⟨(some 24), .mv (.t 7), none⟩, ⟨(some 25), .mv (.t 0), none⟩, ⟨(some 26), .len (.t 25), none⟩, ⟨(some 27), .bin .lss (.t 24) (.t 26), none⟩])
    (.cond (.t 27)
    (.region [⟨(some 28), .mv (.t 6), none⟩, ⟨(some 29), .mv (.t 0), none⟩, ⟨(some 30), .mv (.t 7), none⟩, ⟨(some 31), .idx 1 (.t 29) (.t 30), none⟩, ⟨(some 32), .load false 1 (.t 31) none, none⟩, ⟨(some 33), .bin .add (.t 28) (.t 32), none⟩, ⟨(some 6), .mv (.t 33), none⟩])
    .skip))
    (.seq (.seq (.region [⟨(some 34), .mv (.t 7), none⟩, ⟨(some 35), .mv (.t 1), none⟩, ⟨(some 36), .len (.t 35), none⟩, ⟨(some 37), .bin .lss (.t 34) (.t 36), none⟩])
    (.cond (.t 37)
    (.region [⟨(some 38), .mv (.t 6), none⟩, ⟨(some 39), .mv (.t 1), none⟩, ⟨(some 40), .mv (.t 7), none⟩, ⟨(some 41), .idx 1 (.t 39) (.t 40), none⟩, ⟨(some 42), .load false 1 (.t 41) none, none⟩, ⟨(some 43), .bin .add (.t 38) (.t 42), none⟩, ⟨(some 6), .mv (.t 43), none⟩])
    .skip))
    (.seq (.region [⟨(some 44), .mv (.t 5), none⟩, ⟨(some 45), .mv (.t 6), none⟩, ⟨(some 46), .bin .rem (.t 45) (.k (.int .i64 65536)), none⟩, ⟨(some 47), .bldS ⟨3, 1, some .i64⟩ [.v (.int .i64 0)] 1 [(0, 1, (.t 46))], none⟩, ⟨(some 48), .app ⟨3, 1, some .i64⟩ (.t 44) (.t 47), none⟩, ⟨(some 5), .mv (.t 48), none⟩])
    (.region [⟨(some 49), .mv (.t 6), none⟩, ⟨(some 50), .bin .quo (.t 49) (.k (.int .i64 65536)), none⟩, ⟨(some 6), .mv (.t 50), none⟩])))))
  (.region [⟨(some 22), .mv (.t 7), none⟩, ⟨(some 23), .bin .add (.t 22) (.k (.int .i64 1)), none⟩, ⟨(some 7), .mv (.t 23), none⟩])))
def epactref01_add.c : SF := ⟨53, [.t 4],
  (.seq (.region [⟨(some 4), .mv (.nil .i64), none⟩])
  (.seq (.region [⟨(some 5), .mv (.nil .i64), none⟩])
  (.seq (.region [⟨(some 6), .mv (.k (.int .i64 0)), none⟩])
  (.seq (.seq (.region [⟨(some 7), .mv (.k (.int .i64 0)), none⟩])
  (.block 0
  (.loop epactref01_add.l1)))
  (.seq (.region [⟨(some 51), .mv (.t 5), none⟩, ⟨(some 52), .callR 52 [(.t 51)], none⟩, ⟨(some 4), .mv (.t 52), none⟩])
  .ret)))))⟩
theorem epactref01_add.chk : chkFn Try.prog Try.f61 epactref01_add.c = true := by kernel_rfl
theorem epactref01_add.ent : ∀ args w, (callFunc 61 args).run Try.prog w = .ok (.enter 61 args) w := enters Try.func61 (by kernel_rfl) (by kernel_rfl)

/-- epact/wide.above -/
def wide_above.c : SF := ⟨7, [.t 2],
  (.seq (.region [⟨(some 1), .box (.t 0), none⟩, ⟨(some 2), .mv (.k (.bool false)), none⟩])
  (.seq (.region [⟨(some 3), .load true 2 (.t 1) (some 1), none⟩, ⟨(some 4), .build [.v (.int .i64 0), .v (.int .u64 0)] [], none⟩, ⟨(some 5), .call 37 [(.t 3), (.t 4)], none⟩, ⟨(some 6), .bin .gtr (.t 5) (.k (.int .i64 0)), none⟩, ⟨(some 2), .mv (.t 6), none⟩])
  .ret))⟩
theorem wide_above.chk : chkFn Try.prog Try.f62 wide_above.c = true := by kernel_rfl
theorem wide_above.ent : ∀ args w, (callFunc 62 args).run Try.prog w = .ok (.enter 62 args) w := enters Try.func62 (by kernel_rfl) (by kernel_rfl)

/-- epact/wide.size -/
def wide_size.c : SF := ⟨18, [.c 2 true 2],
  (.seq (.region [⟨(some 1), .box (.t 0), none⟩, ⟨(some 2), .alloc [.v (.int .u64 0), .v (.int .u64 0)], none⟩])
  (.seq (.seq (.region [⟨(some 5), .fld 0 (.t 1), none⟩, ⟨(some 6), .load false 1 (.t 5) (some 1), none⟩, ⟨(some 7), .bin .geq (.t 6) (.k (.int .i64 0)), none⟩])
  (.cond (.t 7)
  (.seq (.region [⟨(some 8), .load true 2 (.t 1) (some 1), none⟩, ⟨(some 9), .call 64 [(.t 8)], none⟩, ⟨none, .store 2 (.t 2) (.t 9) 2, none⟩])
    .ret)
  .skip))
  (.seq (.region [⟨(some 11), .build [.v (.int .u64 0), .v (.int .u64 0)] [], none⟩, ⟨(some 12), .load true 2 (.t 1) (some 1), none⟩, ⟨(some 13), .call 64 [(.t 12)], none⟩, ⟨(some 14), .call 27 [(.t 11), (.t 13)], none⟩, ⟨(some 10), .mv (.t 14), none⟩, ⟨(some 15), .ext (.t 10) 0, none⟩, ⟨(some 16), .ext (.t 10) 1, none⟩, ⟨(some 3), .alloc [.v (.int .u64 0), .v (.int .u64 0)], none⟩, ⟨none, .store 2 (.t 3) (.t 15) 3, none⟩, ⟨(some 4), .mv (.t 16), none⟩])
  (.seq (.region [⟨(some 17), .load true 2 (.t 3) (some 3), none⟩, ⟨none, .store 2 (.t 2) (.t 17) 2, none⟩])
  .ret))))⟩
theorem wide_size.chk : chkFn Try.prog Try.f63 wide_size.c = true := by kernel_rfl
theorem wide_size.ent : ∀ args w, (callFunc 63 args).run Try.prog w = .ok (.enter 63 args) w := enters Try.func63 (by kernel_rfl) (by kernel_rfl)

/-- epact/wide.bits -/
def wide_bits.c : SF := ⟨9, [.c 2 true 2],
  (.seq (.region [⟨(some 1), .box (.t 0), none⟩, ⟨(some 2), .alloc [.v (.int .u64 0), .v (.int .u64 0)], none⟩])
  (.seq (.region [⟨(some 3), .fld 0 (.t 1), none⟩, ⟨(some 4), .load false 1 (.t 3) (some 1), none⟩, ⟨(some 5), .cvt .u64 (.t 4), none⟩, ⟨(some 6), .fld 1 (.t 1), none⟩, ⟨(some 7), .load false 1 (.t 6) (some 1), none⟩, ⟨(some 8), .build [.v (.int .u64 0), .v (.int .u64 0)] [(0, 1, (.t 5)), (1, 1, (.t 7))], none⟩, ⟨none, .store 2 (.t 2) (.t 8) 2, none⟩])
  .ret))⟩
theorem wide_bits.chk : chkFn Try.prog Try.f64 wide_bits.c = true := by kernel_rfl
theorem wide_bits.ent : ∀ args w, (callFunc 64 args).run Try.prog w = .ok (.enter 64 args) w := enters Try.func64 (by kernel_rfl) (by kernel_rfl)

/-- epact/wide.signed -/
def wide_signed.c : SF := ⟨38, [.c 4 true 2, .t 5],
  (.seq (.region [⟨(some 2), .box (.t 0), none⟩, ⟨(some 4), .alloc [.v (.int .i64 0), .v (.int .u64 0)], none⟩, ⟨(some 5), .mv (.k (.int .i64 0)), none⟩])
  (.seq (.region [⟨(some 9), .build [.v (.int .u64 0), .v (.int .u64 0)] [(0, 1, (.k (.int .u64 9223372036854775808)))], none⟩, ⟨(some 6), .alloc [.v (.int .u64 0), .v (.int .u64 0)], none⟩, ⟨none, .store 2 (.t 6) (.t 9) 6, none⟩])
  (.seq (.block 0
  (.seq (.region [⟨(some 11), .mv (.t 1), none⟩, ⟨(some 12), .mv (.t 11), none⟩, ⟨(some 13), .load true 2 (.t 2) (some 2), (some (12, true))⟩, ⟨(some 14), .load true 2 (.t 6) (some 6), (some (12, true))⟩, ⟨(some 15), .call 31 [(.t 13), (.t 14)], (some (12, true))⟩, ⟨(some 16), .bin .leq (.t 15) (.k (.int .i64 0)), (some (12, true))⟩, ⟨(some 17), .pick (.t 12) (.t 16) (.k (.bool false)), none⟩, ⟨(some 10), .mv (.t 17), none⟩])
    (.cond (.t 10)
    (.seq (.region [⟨(some 19), .build [.v (.int .u64 0), .v (.int .u64 0)] [], none⟩, ⟨(some 20), .load true 2 (.t 2) (some 2), none⟩, ⟨(some 21), .call 27 [(.t 19), (.t 20)], none⟩, ⟨(some 18), .mv (.t 21), none⟩, ⟨(some 22), .ext (.t 18) 0, none⟩, ⟨(some 23), .ext (.t 18) 1, none⟩, ⟨(some 7), .alloc [.v (.int .u64 0), .v (.int .u64 0)], none⟩, ⟨none, .store 2 (.t 7) (.t 22) 7, none⟩, ⟨(some 8), .mv (.t 23), none⟩])
      (.seq (.region [⟨(some 24), .load true 2 (.t 7) (some 7), none⟩, ⟨(some 25), .call 66 [(.t 24)], none⟩, ⟨none, .store 2 (.t 4) (.t 25) 4, none⟩, ⟨(some 5), .mv (.k (.int .i64 0)), none⟩])
      .ret))
    (.seq (.region [⟨(some 27), .mv (.t 1), none⟩, ⟨(some 28), .not (.t 27), none⟩, ⟨(some 29), .mv (.t 28), none⟩, ⟨(some 30), .load true 2 (.t 2) (some 2), (some (29, true))⟩, ⟨(some 31), .load true 2 (.t 6) (some 6), (some (29, true))⟩, ⟨(some 32), .call 31 [(.t 30), (.t 31)], (some (29, true))⟩, ⟨(some 33), .bin .lss (.t 32) (.k (.int .i64 0)), (some (29, true))⟩, ⟨(some 34), .pick (.t 29) (.t 33) (.k (.bool false)), none⟩, ⟨(some 26), .mv (.t 34), none⟩])
      (.cond (.t 26)
      (.seq (.region [⟨(some 35), .load true 2 (.t 2) (some 2), none⟩, ⟨(some 36), .call 66 [(.t 35)], none⟩, ⟨none, .store 2 (.t 4) (.t 36) 4, none⟩, ⟨(some 5), .mv (.k (.int .i64 0)), none⟩])
        .ret)
      .skip)))))
  (.seq (.region [⟨(some 37), .build [.v (.int .i64 0), .v (.int .u64 0)] [], none⟩, ⟨none, .store 2 (.t 4) (.t 37) 4, none⟩, ⟨(some 5), .mv (.k (.int .i64 2)), none⟩])
  .ret))))⟩
theorem wide_signed.chk : chkFn Try.prog Try.f65 wide_signed.c = true := by kernel_rfl
theorem wide_signed.ent : ∀ args w, (callFunc 65 args).run Try.prog w = .ok (.enter 65 args) w := enters Try.func65 (by kernel_rfl) (by kernel_rfl)

/-- epact/wide.from -/
def wide_from.c : SF := ⟨9, [.c 2 true 2],
  (.seq (.region [⟨(some 1), .box (.t 0), none⟩, ⟨(some 2), .alloc [.v (.int .i64 0), .v (.int .u64 0)], none⟩])
  (.seq (.region [⟨(some 3), .fld 0 (.t 1), none⟩, ⟨(some 4), .load false 1 (.t 3) (some 1), none⟩, ⟨(some 5), .cvt .i64 (.t 4), none⟩, ⟨(some 6), .fld 1 (.t 1), none⟩, ⟨(some 7), .load false 1 (.t 6) (some 1), none⟩, ⟨(some 8), .build [.v (.int .i64 0), .v (.int .u64 0)] [(0, 1, (.t 5)), (1, 1, (.t 7))], none⟩, ⟨none, .store 2 (.t 2) (.t 8) 2, none⟩])
  .ret))⟩
theorem wide_from.chk : chkFn Try.prog Try.f66 wide_from.c = true := by kernel_rfl
theorem wide_from.ent : ∀ args w, (callFunc 66 args).run Try.prog w = .ok (.enter 66 args) w := enters Try.func66 (by kernel_rfl) (by kernel_rfl)

/-- epact/wide.least -/
def wide_least.c : SF := ⟨6, [.t 2],
  (.seq (.region [⟨(some 1), .box (.t 0), none⟩, ⟨(some 2), .mv (.k (.bool false)), none⟩])
  (.seq (.region [⟨(some 3), .load true 2 (.t 1) (some 1), none⟩, ⟨(some 4), .build [.v (.int .i64 0), .v (.int .u64 0)] [(0, 1, (.k (.int .i64 (-9223372036854775808))))], none⟩, ⟨(some 5), .eqs false [.i64, .u64] (.t 3) (.t 4), none⟩, ⟨(some 2), .mv (.t 5), none⟩])
  .ret))⟩
theorem wide_least.chk : chkFn Try.prog Try.f67 wide_least.c = true := by kernel_rfl
theorem wide_least.ent : ∀ args w, (callFunc 67 args).run Try.prog w = .ok (.enter 67 args) w := enters Try.func67 (by kernel_rfl) (by kernel_rfl)

/-- epact/epactref01.word -/
def epactref01_word.l1 : SC :=
  (.seq (.seq (.region [⟨(some 7), .mv (.t 6), none⟩, ⟨(some 8), .bin .geq (.t 7) (.k (.int .i64 0)), none⟩])
  (.cond (.t 8)
  .skip
  (.exit 0)))
  (.seq (.block 1
  (.seq (.region [⟨(some 11), .mv (.t 5), none⟩, ⟨(some 12), .bin .shl (.t 11) (.k (.int .u64 16)), none⟩, ⟨(some 5), .mv (.t 12), none⟩])
    (.seq (.region [⟨(some 13), .mv (.t 1), none⟩, ⟨(some 14), .mv (.t 6), none⟩, ⟨(some 15), .bin .add (.t 13) (.t 14), none⟩, ⟨(some 16), .mv (.t 0), none⟩, ⟨(some 17), .len (.t 16), none⟩, ⟨(some 18), .bin .lss (.t 15) (.t 17), none⟩])
    (.cond (.t 18)
    (.region [⟨(some 19), .mv (.t 5), none⟩, ⟨(some 20), .mv (.t 0), none⟩, ⟨(some 21), .mv (.t 1), none⟩, ⟨(some 22), .mv (.t 6), none⟩, ⟨(some 23), .bin .add (.t 21) (.t 22), none⟩, ⟨(some 24), .idx 1 (.t 20) (.t 23), none⟩, ⟨(some 25), .load false 1 (.t 24) none, none⟩, ⟨(some 26), .cvt .u64 (.t 25), none⟩, ⟨(some 27), .bin .add (.t 19) (.t 26), none⟩, ⟨(some 5), .mv (.t 27), none⟩])
    .skip))))
  (.region [⟨(some 9), .mv (.t 6), none⟩, ⟨(some 10), .bin .sub (.t 9) (.k (.int .i64 1)), none⟩, ⟨(some 6), .mv (.t 10), none⟩])))
def epactref01_word.c : SF := ⟨29, [.t 4],
  (.seq (.region [⟨(some 4), .mv (.k (.int .u64 0)), none⟩])
  (.seq (.region [⟨(some 5), .mv (.k (.int .u64 0)), none⟩])
  (.seq (.seq (.region [⟨(some 6), .mv (.k (.int .i64 3)), none⟩])
  (.block 0
  (.loop epactref01_word.l1)))
  (.seq (.region [⟨(some 28), .mv (.t 5), none⟩, ⟨(some 4), .mv (.t 28), none⟩])
  .ret))))⟩
theorem epactref01_word.chk : chkFn Try.prog Try.f68 epactref01_word.c = true := by kernel_rfl
theorem epactref01_word.ent : ∀ args w, (callFunc 68 args).run Try.prog w = .ok (.enter 68 args) w := enters Try.func68 (by kernel_rfl) (by kernel_rfl)

/-- math/bits.Mul64 -/
def bits_Mul64.c : SF := ⟨51, [.t 4, .t 5],
  (.seq (.region [⟨(some 4), .mv (.k (.int .u64 0)), none⟩, ⟨(some 5), .mv (.k (.int .u64 0)), none⟩])
  (.seq (.region [⟨(some 14), .mv (.t 0), none⟩, ⟨(some 15), .bin .and (.t 14) (.k (.int .u64 4294967295)), none⟩, ⟨(some 6), .mv (.t 15), none⟩])
  (.seq (.region [⟨(some 16), .mv (.t 0), none⟩, ⟨(some 17), .bin .shr (.t 16) (.k (.int .u64 32)), none⟩, ⟨(some 7), .mv (.t 17), none⟩])
  (.seq (.region [⟨(some 18), .mv (.t 1), none⟩, ⟨(some 19), .bin .and (.t 18) (.k (.int .u64 4294967295)), none⟩, ⟨(some 8), .mv (.t 19), none⟩])
  (.seq (.region [⟨(some 20), .mv (.t 1), none⟩, ⟨(some 21), .bin .shr (.t 20) (.k (.int .u64 32)), none⟩, ⟨(some 9), .mv (.t 21), none⟩])
  (.seq (.region [⟨(some 22), .mv (.t 6), none⟩, ⟨(some 23), .mv (.t 8), none⟩, ⟨(some 24), .bin .mul (.t 22) (.t 23), none⟩, ⟨(some 10), .mv (.t 24), none⟩])
  (.seq (.region [⟨(some 25), .mv (.t 7), none⟩, ⟨(some 26), .mv (.t 8), none⟩, ⟨(some 27), .bin .mul (.t 25) (.t 26), none⟩, ⟨(some 28), .mv (.t 10), none⟩, ⟨(some 29), .bin .shr (.t 28) (.k (.int .u64 32)), none⟩, ⟨(some 30), .bin .add (.t 27) (.t 29), none⟩, ⟨(some 11), .mv (.t 30), none⟩])
  (.seq (.region [⟨(some 31), .mv (.t 11), none⟩, ⟨(some 32), .bin .and (.t 31) (.k (.int .u64 4294967295)), none⟩, ⟨(some 12), .mv (.t 32), none⟩])
  (.seq (.region [⟨(some 33), .mv (.t 11), none⟩, ⟨(some 34), .bin .shr (.t 33) (.k (.int .u64 32)), none⟩, ⟨(some 13), .mv (.t 34), none⟩])
  (.seq (.region [⟨(some 35), .mv (.t 12), none⟩, ⟨(some 36), .mv (.t 6), none⟩, ⟨(some 37), .mv (.t 9), none⟩, ⟨(some 38), .bin .mul (.t 36) (.t 37), none⟩, ⟨(some 39), .bin .add (.t 35) (.t 38), none⟩, ⟨(some 12), .mv (.t 39), none⟩])
  (.seq (.region [⟨(some 40), .mv (.t 7), none⟩, ⟨(some 41), .mv (.t 9), none⟩, ⟨(some 42), .bin .mul (.t 40) (.t 41), none⟩, ⟨(some 43), .mv (.t 13), none⟩, ⟨(some 44), .bin .add (.t 42) (.t 43), none⟩, ⟨(some 45), .mv (.t 12), none⟩, ⟨(some 46), .bin .shr (.t 45) (.k (.int .u64 32)), none⟩, ⟨(some 47), .bin .add (.t 44) (.t 46), none⟩, ⟨(some 4), .mv (.t 47), none⟩])
  (.seq (.region [⟨(some 48), .mv (.t 0), none⟩, ⟨(some 49), .mv (.t 1), none⟩, ⟨(some 50), .bin .mul (.t 48) (.t 49), none⟩, ⟨(some 5), .mv (.t 50), none⟩])
  .ret))))))))))))⟩
theorem bits_Mul64.chk : chkFn Try.prog Try.f69 bits_Mul64.c = true := by kernel_rfl
theorem bits_Mul64.ent : ∀ args w, (callFunc 69 args).run Try.prog w = .ok (.enter 69 args) w := enters Try.func69 (by kernel_rfl) (by kernel_rfl)

/-- math/bits.Div64 -/
def bits_Div64.l1 : SC :=
  (.seq (.seq (.region [⟨(some 67), .mv (.t 15), none⟩, ⟨(some 68), .bin .geq (.t 67) (.k (.int .u64 4294967296)), none⟩, ⟨(some 69), .mv (.t 68), none⟩, ⟨(some 70), .mv (.t 15), (some (69, false))⟩, ⟨(some 71), .mv (.t 10), (some (69, false))⟩, ⟨(some 72), .bin .mul (.t 70) (.t 71), (some (69, false))⟩, ⟨(some 73), .mv (.t 16), (some (69, false))⟩, ⟨(some 74), .bin .mul (.k (.int .u64 4294967296)) (.t 73), (some (69, false))⟩, ⟨(some 75), .mv (.t 13), (some (69, false))⟩, ⟨(some 76), .bin .add (.t 74) (.t 75), (some (69, false))⟩, ⟨(some 77), .bin .gtr (.t 72) (.t 76), (some (69, false))⟩, ⟨(some 78), .pick (.t 69) (.k (.bool true)) (.t 77), none⟩])
  (.cond (.t 78)
  .skip
  (.exit 0)))
  (.block 1
  (.seq (.region [⟨(some 79), .mv (.t 15), none⟩, ⟨(some 80), .bin .sub (.t 79) (.k (.int .u64 1)), none⟩, ⟨(some 15), .mv (.t 80), none⟩])
    (.seq (.region [⟨(some 81), .mv (.t 16), none⟩, ⟨(some 82), .mv (.t 9), none⟩, ⟨(some 83), .bin .add (.t 81) (.t 82), none⟩, ⟨(some 16), .mv (.t 83), none⟩])
    (.seq (.region [⟨(some 84), .mv (.t 16), none⟩, ⟨(some 85), .bin .geq (.t 84) (.k (.int .u64 4294967296)), none⟩])
    (.cond (.t 85)
    (.exit 0)
    .skip))))))
def bits_Div64.l2 : SC :=
  (.seq (.seq (.region [⟨(some 102), .mv (.t 18), none⟩, ⟨(some 103), .bin .geq (.t 102) (.k (.int .u64 4294967296)), none⟩, ⟨(some 104), .mv (.t 103), none⟩, ⟨(some 105), .mv (.t 18), (some (104, false))⟩, ⟨(some 106), .mv (.t 10), (some (104, false))⟩, ⟨(some 107), .bin .mul (.t 105) (.t 106), (some (104, false))⟩, ⟨(some 108), .mv (.t 16), (some (104, false))⟩, ⟨(some 109), .bin .mul (.k (.int .u64 4294967296)) (.t 108), (some (104, false))⟩, ⟨(some 110), .mv (.t 14), (some (104, false))⟩, ⟨(some 111), .bin .add (.t 109) (.t 110), (some (104, false))⟩, ⟨(some 112), .bin .gtr (.t 107) (.t 111), (some (104, false))⟩, ⟨(some 113), .pick (.t 104) (.k (.bool true)) (.t 112), none⟩])
  (.cond (.t 113)
  .skip
  (.exit 2)))
  (.block 3
  (.seq (.region [⟨(some 114), .mv (.t 18), none⟩, ⟨(some 115), .bin .sub (.t 114) (.k (.int .u64 1)), none⟩, ⟨(some 18), .mv (.t 115), none⟩])
    (.seq (.region [⟨(some 116), .mv (.t 16), none⟩, ⟨(some 117), .mv (.t 9), none⟩, ⟨(some 118), .bin .add (.t 116) (.t 117), none⟩, ⟨(some 16), .mv (.t 118), none⟩])
    (.seq (.region [⟨(some 119), .mv (.t 16), none⟩, ⟨(some 120), .bin .geq (.t 119) (.k (.int .u64 4294967296)), none⟩])
    (.cond (.t 120)
    (.exit 2)
    .skip))))))
def bits_Div64.c : SF := ⟨135, [.t 6, .t 7],
  (.seq (.region [⟨(some 6), .mv (.k (.int .u64 0)), none⟩, ⟨(some 7), .mv (.k (.int .u64 0)), none⟩])
  (.seq (.seq (.region [⟨(some 19), .mv (.t 2), none⟩, ⟨(some 20), .bin .eql (.t 19) (.k (.int .u64 0)), none⟩])
  (.cond (.t 20)
  .bad
  .skip))
  (.seq (.seq (.region [⟨(some 22), .mv (.t 2), none⟩, ⟨(some 23), .mv (.t 0), none⟩, ⟨(some 24), .bin .leq (.t 22) (.t 23), none⟩])
  (.cond (.t 24)
  .bad
  .skip))
  (.seq (.seq (.region [⟨(some 26), .mv (.t 0), none⟩, ⟨(some 27), .bin .eql (.t 26) (.k (.int .u64 0)), none⟩])
  (.cond (.t 27)
  (.seq (.region [⟨(some 28), .mv (.t 1), none⟩, ⟨(some 29), .mv (.t 2), none⟩, ⟨(some 30), .bin .quo (.t 28) (.t 29), none⟩, ⟨(some 31), .mv (.t 1), none⟩, ⟨(some 32), .mv (.t 2), none⟩, ⟨(some 33), .bin .rem (.t 31) (.t 32), none⟩, ⟨(some 6), .mv (.t 30), none⟩, ⟨(some 7), .mv (.t 33), none⟩])
    .ret)
  .skip))
  (.seq (.region [⟨(some 34), .mv (.t 2), none⟩, ⟨(some 35), .call 71 [(.t 34)], none⟩, ⟨(some 36), .cvt .u64 (.t 35), none⟩, ⟨(some 8), .mv (.t 36), none⟩])
  (.seq (.region [⟨(some 37), .mv (.t 2), none⟩, ⟨(some 38), .mv (.t 8), none⟩, ⟨(some 39), .bin .shl (.t 37) (.t 38), none⟩, ⟨(some 2), .mv (.t 39), none⟩])
  (.seq (.region [⟨(some 40), .mv (.t 2), none⟩, ⟨(some 41), .bin .shr (.t 40) (.k (.int .u64 32)), none⟩, ⟨(some 9), .mv (.t 41), none⟩])
  (.seq (.region [⟨(some 42), .mv (.t 2), none⟩, ⟨(some 43), .bin .and (.t 42) (.k (.int .u64 4294967295)), none⟩, ⟨(some 10), .mv (.t 43), none⟩])
  (.seq (.region [⟨(some 44), .mv (.t 0), none⟩, ⟨(some 45), .mv (.t 8), none⟩, ⟨(some 46), .bin .shl (.t 44) (.t 45), none⟩, ⟨(some 47), .mv (.t 1), none⟩, ⟨(some 48), .mv (.t 8), none⟩, ⟨(some 49), .bin .sub (.k (.int .u64 64)) (.t 48), none⟩, ⟨(some 50), .bin .shr (.t 47) (.t 49), none⟩, ⟨(some 51), .bin .or (.t 46) (.t 50), none⟩, ⟨(some 11), .mv (.t 51), none⟩])
  (.seq (.region [⟨(some 52), .mv (.t 1), none⟩, ⟨(some 53), .mv (.t 8), none⟩, ⟨(some 54), .bin .shl (.t 52) (.t 53), none⟩, ⟨(some 12), .mv (.t 54), none⟩])
  (.seq (.region [⟨(some 55), .mv (.t 12), none⟩, ⟨(some 56), .bin .shr (.t 55) (.k (.int .u64 32)), none⟩, ⟨(some 13), .mv (.t 56), none⟩])
  (.seq (.region [⟨(some 57), .mv (.t 12), none⟩, ⟨(some 58), .bin .and (.t 57) (.k (.int .u64 4294967295)), none⟩, ⟨(some 14), .mv (.t 58), none⟩])
  (.seq (.region [⟨(some 59), .mv (.t 11), none⟩, ⟨(some 60), .mv (.t 9), none⟩, ⟨(some 61), .bin .quo (.t 59) (.t 60), none⟩, ⟨(some 15), .mv (.t 61), none⟩])
  (.seq (.region [⟨(some 62), .mv (.t 11), none⟩, ⟨(some 63), .mv (.t 15), none⟩, ⟨(some 64), .mv (.t 9), none⟩, ⟨(some 65), .bin .mul (.t 63) (.t 64), none⟩, ⟨(some 66), .bin .sub (.t 62) (.t 65), none⟩, ⟨(some 16), .mv (.t 66), none⟩])
  (.seq (.block 0
  (.loop bits_Div64.l1))
  (.seq (.region [⟨(some 86), .mv (.t 11), none⟩, ⟨(some 87), .bin .mul (.t 86) (.k (.int .u64 4294967296)), none⟩, ⟨(some 88), .mv (.t 13), none⟩, ⟨(some 89), .bin .add (.t 87) (.t 88), none⟩, ⟨(some 90), .mv (.t 15), none⟩, ⟨(some 91), .mv (.t 2), none⟩, ⟨(some 92), .bin .mul (.t 90) (.t 91), none⟩, ⟨(some 93), .bin .sub (.t 89) (.t 92), none⟩, ⟨(some 17), .mv (.t 93), none⟩])
  (.seq (.region [⟨(some 94), .mv (.t 17), none⟩, ⟨(some 95), .mv (.t 9), none⟩, ⟨(some 96), .bin .quo (.t 94) (.t 95), none⟩, ⟨(some 18), .mv (.t 96), none⟩])
  (.seq (.region [⟨(some 97), .mv (.t 17), none⟩, ⟨(some 98), .mv (.t 18), none⟩, ⟨(some 99), .mv (.t 9), none⟩, ⟨(some 100), .bin .mul (.t 98) (.t 99), none⟩, ⟨(some 101), .bin .sub (.t 97) (.t 100), none⟩, ⟨(some 16), .mv (.t 101), none⟩])
  (.seq (.block 2
  (.loop bits_Div64.l2))
  (.seq (.region [⟨(some 121), .mv (.t 15), none⟩, ⟨(some 122), .bin .mul (.t 121) (.k (.int .u64 4294967296)), none⟩, ⟨(some 123), .mv (.t 18), none⟩, ⟨(some 124), .bin .add (.t 122) (.t 123), none⟩, ⟨(some 125), .mv (.t 17), none⟩, ⟨(some 126), .bin .mul (.t 125) (.k (.int .u64 4294967296)), none⟩, ⟨(some 127), .mv (.t 14), none⟩, ⟨(some 128), .bin .add (.t 126) (.t 127), none⟩, ⟨(some 129), .mv (.t 18), none⟩, ⟨(some 130), .mv (.t 2), none⟩, ⟨(some 131), .bin .mul (.t 129) (.t 130), none⟩, ⟨(some 132), .bin .sub (.t 128) (.t 131), none⟩, ⟨(some 133), .mv (.t 8), none⟩, ⟨(some 134), .bin .shr (.t 132) (.t 133), none⟩, ⟨(some 6), .mv (.t 124), none⟩, ⟨(some 7), .mv (.t 134), none⟩])
  .ret))))))))))))))))))))⟩
theorem bits_Div64.chk : chkFn Try.prog Try.f70 bits_Div64.c = true := by kernel_rfl
theorem bits_Div64.ent : ∀ args w, (callFunc 70 args).run Try.prog w = .ok (.enter 70 args) w := enters Try.func70 (by kernel_rfl) (by kernel_rfl)

/-- math/bits.LeadingZeros64 -/
def bits_LeadingZeros64.c : SF := ⟨6, [.t 2],
  (.seq (.region [⟨(some 2), .mv (.k (.int .i64 0)), none⟩])
  (.seq (.region [⟨(some 3), .mv (.t 0), none⟩, ⟨(some 4), .call 72 [(.t 3)], none⟩, ⟨(some 5), .bin .sub (.k (.int .i64 64)) (.t 4), none⟩, ⟨(some 2), .mv (.t 5), none⟩])
  .ret))⟩
theorem bits_LeadingZeros64.chk : chkFn Try.prog Try.f71 bits_LeadingZeros64.c = true := by kernel_rfl
theorem bits_LeadingZeros64.ent : ∀ args w, (callFunc 71 args).run Try.prog w = .ok (.enter 71 args) w := enters Try.func71 (by kernel_rfl) (by kernel_rfl)
end Go.Proofs.Ytichmemhahbhnaa.E
