/- The plain form of functions of the program (printed by a program of this session). -/
import Derived.Test.YthcbefkgfhokoaaProg
import Derived.Test.YthcbefkgfhokoaaFwE
import Derived.KernelRfl
set_option maxRecDepth 100000
namespace Go.Proofs.Ythcbefkgfhokoaa
open Go Go.Dv

/- dovecote.latch.New -/
def F9 : MF := ⟨5, [(0, none)],
  .seq (.reg <| .rd (some 0) none none (.mv (.const (.pointer none))) <|
    .done) <|
  .seq (.reg <| .ef (some 1) none 0 (.raw ⟨none, (.makeMap 59 none), 59, "", #[], none⟩) <|
    .ef (some 2) none 0 (.cl 26 []) <|
    .rd (some 3) none none (.bld [(.map none), (.pointer none)] [(0, 1, (.tmp 1)), (1, 1, (.tmp 2))]) <|
    .ef (some 4) none 0 (.bx 65 2 (.tmp 3)) <|
    .rd (some 0) none none (.mv (.tmp 4)) <|
    .done) <|
  .ret⟩
def F9.k : List Nat := [0]
theorem F9.ok : trF Try.prog 9 = some F9 := by kernel_rfl

/- (*dovecote.latch.Table).Lay -/
abbrev F10b0 : MC :=
  .seq (.reg <| .rd (some 73) none none (.bin .lss (.tmp 72) (.tmp 71)) <|
    .done) <|
  .seq (.cond (.tmp 73) (.skip) <|
  .exit 0) <|
  .seq (.block 1 <|
  .seq (.reg <| .rd (some 74) none none (.ia 3 (.tmp 70) (.tmp 72)) <|
    .rd (some 75) none none (.ld (some 3) (.tmp 74)) <|
    .ef (some 16) none 0 (.al 39 [(.string ⟨#[]⟩), (.string ⟨#[]⟩), (.bool false)]) <|
    .ef none none 0 (.st 3 (.tmp 16) (.tmp 75)) <|
    .done) <|
  .reg <| .rd (some 76) none (some 512) (.ld none (.tmp 6)) <|
    .rd (some 77) none none (.nz (.tmp 76)) <|
    .rd (some 78) none none (.fa 1 (.tmp 77)) <|
    .rd (some 79) none (some 512) (.ld none (.tmp 78)) <|
    .rd (some 80) none none (.fa 0 (.tmp 16)) <|
    .rd (some 81) none (some 512) (.ld none (.tmp 80)) <|
    .rd (some 82) none (some 512) (.ld (some 2) (.tmp 7)) <|
    .rd (some 83) none (some 512) (.ld (some 3) (.tmp 16)) <|
    .rd (some 84) none none (.bld [(.int .u32 0), (.int .u32 0), (.string ⟨#[]⟩), (.string ⟨#[]⟩), (.bool false)] [(0, 2, (.tmp 82)), (2, 3, (.tmp 83))]) <|
    .ef (some 85) none 9 (.cl 35 [(.tmp 79), (.tmp 81), (.tmp 84)]) <|
    .done) <|
  .reg <| .rd (some 86) none none (.bin .add (.tmp 72) (.const (.int .i64 1))) <|
    .rd (some 72) none none (.mv (.tmp 86)) <|
    .done
def F10 : MF := ⟨87, [(12, none)],
  .seq (.reg <| .ef (some 6) none 0 (.bx 34 1 (.tmp 0)) <|
    .ef (some 7) none 0 (.bx 25 2 (.tmp 1)) <|
    .ef (some 8) none 0 (.bx 28 2 (.tmp 2)) <|
    .ef (some 9) none 0 (.bx 28 2 (.tmp 3)) <|
    .rd (some 12) none none (.mv (.const (.int .i64 0))) <|
    .done) <|
  .seq (.seq (.reg <| .rd (some 17) none none (.ld none (.tmp 6)) <|
    .rd (some 18) none none (.eqn 4 false (.tmp 17) (.const (.pointer none))) <|
    .rd (some 19) none none (.mv (.tmp 18)) <|
    .rd (some 20) (some (19, false)) none (.mv (.tmp 5)) <|
    .ef (some 21) (some (19, false)) 0 (.cl 15 [(.tmp 20)]) <|
    .rd (some 22) (some (19, false)) none (.un .not (.tmp 21)) <|
    .rd (some 23) none none (.pick (.tmp 19) (.const (.bool true)) (.tmp 22)) <|
    .rd (some 24) none none (.mv (.tmp 23)) <|
    .rd (some 25) (some (24, false)) none (.ld (some 2) (.tmp 8)) <|
    .ef (some 26) (some (24, false)) 0 (.cl 27 [(.tmp 25)]) <|
    .rd (some 27) (some (24, false)) none (.un .not (.tmp 26)) <|
    .rd (some 28) none none (.pick (.tmp 24) (.const (.bool true)) (.tmp 27)) <|
    .rd (some 29) none none (.mv (.tmp 28)) <|
    .rd (some 30) (some (29, false)) none (.ld (some 2) (.tmp 9)) <|
    .ef (some 31) (some (29, false)) 0 (.cl 27 [(.tmp 30)]) <|
    .rd (some 32) (some (29, false)) none (.un .not (.tmp 31)) <|
    .rd (some 33) none none (.pick (.tmp 29) (.const (.bool true)) (.tmp 32)) <|
    .rd (some 34) none none (.mv (.tmp 33)) <|
    .rd (some 35) (some (34, false)) none (.mv (.tmp 4)) <|
    .ef (some 36) (some (34, false)) 0 (.cl 28 [(.tmp 35)]) <|
    .rd (some 37) (some (34, false)) none (.un .not (.tmp 36)) <|
    .rd (some 38) none none (.pick (.tmp 34) (.const (.bool true)) (.tmp 37)) <|
    .done) <|
  .cond (.tmp 38) (.seq (.reg <| .rd (some 12) none none (.mv (.const (.int .i64 1))) <|
    .done) <|
  .ret) <|
  .skip) <|
  .seq (.reg <| .rd (some 39) none none (.mf (.func 29) [] [(.tmp 6)]) <|
    .rd (some 13) none none (.mv (.tmp 39)) <|
    .done) <|
  .seq (.seq (.reg <| .rd (some 40) none (some 1024) (.ld none (.tmp 6)) <|
    .rd (some 41) none none (.nz (.tmp 40)) <|
    .rd (some 42) none none (.fa 0 (.tmp 41)) <|
    .rd (some 43) none (some 1024) (.ld none (.tmp 42)) <|
    .rd (some 44) none (some 1024) (.ld (some 2) (.tmp 7)) <|
    .rd (some 45) none (some 1024) (.raw ⟨none, (.lookup 59 (.tmp 43) (.tmp 44) false), 71, "", #[], none⟩) <|
    .rd (some 46) none none (.eqn 4 true (.tmp 45) (.const (.pointer none))) <|
    .rd (some 47) none none (.mv (.tmp 46)) <|
    .rd (some 48) (some (47, false)) none (.mv (.tmp 5)) <|
    .rd (some 49) (some (47, false)) none (.mv (.tmp 13)) <|
    .ef (some 50) (some (47, false)) 10 (.cl 31 [(.tmp 48), (.tmp 49)]) <|
    .rd (some 51) none none (.pick (.tmp 47) (.const (.bool true)) (.tmp 50)) <|
    .done) <|
  .cond (.tmp 51) (.seq (.reg <| .rd (some 12) none none (.mv (.const (.int .i64 40))) <|
    .done) <|
  .ret) <|
  .skip) <|
  .seq (.reg <| .rd (some 52) none (some 64) (.ld (some 2) (.tmp 8)) <|
    .rd (some 53) none (some 64) (.ld (some 2) (.tmp 9)) <|
    .rd (some 54) none none (.mv (.tmp 4)) <|
    .rd (some 55) none none (.mv (.tmp 5)) <|
    .ef (some 56) none 4 (.cl 32 [(.tmp 55)]) <|
    .rd (some 57) none none (.bld [(.int .u64 0), (.int .u32 0), (.int .u64 0), (.int .u32 0), (.string ⟨#[]⟩), (.slice none 0 0)] [(0, 2, (.tmp 52)), (2, 2, (.tmp 53)), (4, 1, (.tmp 54)), (5, 1, (.tmp 56))]) <|
    .ef (some 58) none 6 (.bx 75 6 (.tmp 57)) <|
    .rd (some 14) none none (.mv (.tmp 58)) <|
    .done) <|
  .seq (.reg <| .rd (some 59) none none (.mv (.tmp 14)) <|
    .rd (some 60) none none (.nz (.tmp 59)) <|
    .rd (some 61) none none (.fa 5 (.tmp 60)) <|
    .rd (some 62) none none (.ld none (.tmp 61)) <|
    .ef (some 63) none 0 (.cl 33 [(.tmp 62), (.func 34)]) <|
    .done) <|
  .seq (.reg <| .rd (some 64) none (some 64) (.ld none (.tmp 6)) <|
    .rd (some 65) none none (.nz (.tmp 64)) <|
    .rd (some 66) none none (.fa 0 (.tmp 65)) <|
    .rd (some 67) none (some 64) (.ld none (.tmp 66)) <|
    .rd (some 68) none (some 64) (.ld (some 2) (.tmp 7)) <|
    .rd (some 69) none none (.mv (.tmp 14)) <|
    .ef none none 6 (.raw ⟨none, (.mapUpdate 59 (.tmp 67) (.tmp 68) (.tmp 69)), 0, "", #[], none⟩) <|
    .done) <|
  .seq (.seq (.reg <| .rd (some 70) none none (.mv (.tmp 5)) <|
    .rd (some 71) none none (.len (.tmp 70)) <|
    .rd (some 72) none none (.mv (.const (.int .i64 0))) <|
    .done) <|
  .block 0 <|
  .loop F10b0) <|
  .seq (.reg <| .rd (some 12) none none (.mv (.const (.int .i64 0))) <|
    .done) <|
  .ret⟩
def F10.k : List Nat := [0, 1, 2, 3, 4, 5, 6, 7, 8, 9, 12, 13, 14, 16, 38, 51, 70, 71, 72, 73]
theorem F10.ok : trF Try.prog 10 = some F10 := by kernel_rfl

/- (*dovecote.latch.Table).All -/
abbrev F11b0 : MC :=
  .seq (.reg <| .rd (some 17) none none (.bin .lss (.tmp 16) (.tmp 15)) <|
    .done) <|
  .seq (.cond (.tmp 17) (.skip) <|
  .exit 0) <|
  .seq (.block 1 <|
  .seq (.reg <| .rd (some 18) none none (.ia 1 (.tmp 14) (.tmp 16)) <|
    .rd (some 19) none none (.ld none (.tmp 18)) <|
    .rd (some 5) none none (.mv (.tmp 19)) <|
    .done) <|
  .seq (.reg <| .rd (some 21) none none (.mv (.tmp 0)) <|
    .rd (some 22) none none (.mv (.tmp 5)) <|
    .ef (some 23) none 0 (.cl 17 [(.tmp 21), (.tmp 22)]) <|
    .rd (some 20) none none (.mv (.tmp 23)) <|
    .rd (some 24) none none (.ext (.tmp 20) 0) <|
    .rd (some 25) none none (.ext (.tmp 20) 1) <|
    .ef (some 6) none 0 (.al 41 [(.int .u32 0), (.int .u32 0), (.int .u64 0), (.int .u32 0), (.int .u64 0), (.int .u32 0), (.string ⟨#[]⟩), (.string ⟨#[]⟩), (.string ⟨#[]⟩), (.bool false)]) <|
    .ef none none 0 (.st 10 (.tmp 6) (.tmp 24)) <|
    .rd (some 7) none none (.mv (.tmp 25)) <|
    .done) <|
  .reg <| .rd (some 26) none none (.mv (.tmp 3)) <|
    .rd (some 27) none none (.ld (some 10) (.tmp 6)) <|
    .ef (some 28) none 0 (.raw ⟨none, (.buildSlice 42 1 #[(0, (.tmp 27))]), 42, "", #[], none⟩) <|
    .ef (some 29) none 0 (.raw ⟨none, (.call ⟨(.builtin .append), #[(.tmp 26), (.tmp 28)], #[42, 42]⟩), 42, "", #[], none⟩) <|
    .rd (some 3) none none (.mv (.tmp 29)) <|
    .done) <|
  .reg <| .rd (some 30) none none (.bin .add (.tmp 16) (.const (.int .i64 1))) <|
    .rd (some 16) none none (.mv (.tmp 30)) <|
    .done
def F11 : MF := ⟨32, [(2, none)],
  .seq (.reg <| .rd (some 2) none none (.mv (.const (.slice none 0 0))) <|
    .done) <|
  .seq (.seq (.reg <| .rd (some 8) none none (.mv (.tmp 0)) <|
    .rd (some 9) none none (.eqn 4 false (.tmp 8) (.const (.pointer none))) <|
    .done) <|
  .cond (.tmp 9) (.seq (.reg <| .rd (some 2) none none (.mv (.const (.slice none 0 0))) <|
    .done) <|
  .ret) <|
  .skip) <|
  .seq (.reg <| .rd (some 3) none none (.mv (.const (.slice none 0 0))) <|
    .done) <|
  .seq (.seq (.reg <| .rd (some 10) none none (.mv (.tmp 0)) <|
    .rd (some 11) none none (.nz (.tmp 10)) <|
    .rd (some 12) none none (.fa 1 (.tmp 11)) <|
    .rd (some 13) none none (.ld none (.tmp 12)) <|
    .ef (some 14) none 0 (.cl 36 [(.tmp 13), (.const (.string ⟨#[]⟩)), (.const (.string ⟨#[]⟩)), (.const (.int .i64 9223372036854775807))]) <|
    .rd (some 15) none none (.len (.tmp 14)) <|
    .rd (some 16) none none (.mv (.const (.int .i64 0))) <|
    .done) <|
  .block 0 <|
  .loop F11b0) <|
  .seq (.reg <| .rd (some 31) none none (.mv (.tmp 3)) <|
    .rd (some 2) none none (.mv (.tmp 31)) <|
    .done) <|
  .ret⟩
def F11.k : List Nat := [0, 2, 3, 5, 6, 9, 14, 15, 16, 17]
theorem F11.ok : trF Try.prog 11 = some F11 := by kernel_rfl

/- (*dovecote.latch.Table).First -/
abbrev F12b0 : MC :=
  .seq (.reg <| .rd (some 28) none none (.bin .lss (.tmp 27) (.tmp 26)) <|
    .done) <|
  .seq (.cond (.tmp 28) (.skip) <|
  .exit 0) <|
  .seq (.block 1 <|
  .seq (.reg <| .rd (some 29) none none (.ia 1 (.tmp 25) (.tmp 27)) <|
    .rd (some 30) none none (.ld none (.tmp 29)) <|
    .rd (some 13) none none (.mv (.tmp 30)) <|
    .done) <|
  .seq (.reg <| .rd (some 32) none none (.mv (.tmp 0)) <|
    .rd (some 33) none none (.mv (.tmp 13)) <|
    .ef (some 34) none 0 (.cl 17 [(.tmp 32), (.tmp 33)]) <|
    .rd (some 31) none none (.mv (.tmp 34)) <|
    .rd (some 35) none none (.ext (.tmp 31) 0) <|
    .rd (some 36) none none (.ext (.tmp 31) 1) <|
    .ef (some 14) none 0 (.al 41 [(.int .u32 0), (.int .u32 0), (.int .u64 0), (.int .u32 0), (.int .u64 0), (.int .u32 0), (.string ⟨#[]⟩), (.string ⟨#[]⟩), (.string ⟨#[]⟩), (.bool false)]) <|
    .ef none none 0 (.st 10 (.tmp 14) (.tmp 35)) <|
    .rd (some 15) none none (.mv (.tmp 36)) <|
    .done) <|
  .seq (.reg <| .rd (some 37) none none (.ld (some 2) (.tmp 8)) <|
    .rd (some 38) none none (.fa 4 (.tmp 14)) <|
    .rd (some 39) none none (.ld (some 2) (.tmp 38)) <|
    .ef (some 40) none 0 (.cl 37 [(.tmp 37), (.tmp 39)]) <|
    .rd (some 41) none none (.un .not (.tmp 40)) <|
    .rd (some 42) none none (.mv (.tmp 41)) <|
    .rd (some 43) (some (42, true)) none (.mv (.tmp 4)) <|
    .rd (some 44) (some (42, true)) none (.fa 0 (.tmp 14)) <|
    .rd (some 45) (some (42, true)) none (.ld (some 2) (.tmp 44)) <|
    .ef (some 46) (some (42, true)) 0 (.cl 38 [(.tmp 43), (.tmp 45)]) <|
    .rd (some 47) (some (42, true)) none (.un .not (.tmp 46)) <|
    .rd (some 48) none none (.pick (.tmp 42) (.tmp 47) (.const (.bool false))) <|
    .done) <|
  .cond (.tmp 48) (.seq (.reg <| .rd (some 49) none none (.ld (some 10) (.tmp 14)) <|
    .ef none none 0 (.st 10 (.tmp 10) (.tmp 49)) <|
    .rd (some 11) none none (.mv (.const (.bool true))) <|
    .done) <|
  .ret) <|
  .skip) <|
  .reg <| .rd (some 50) none none (.bin .add (.tmp 27) (.const (.int .i64 1))) <|
    .rd (some 27) none none (.mv (.tmp 50)) <|
    .done
def F12 : MF := ⟨52, [(10, (some (some 10))), (11, none)],
  .seq (.reg <| .ef (some 8) none 0 (.bx 28 2 (.tmp 3)) <|
    .ef (some 10) none 0 (.al 41 [(.int .u32 0), (.int .u32 0), (.int .u64 0), (.int .u32 0), (.int .u64 0), (.int .u32 0), (.string ⟨#[]⟩), (.string ⟨#[]⟩), (.string ⟨#[]⟩), (.bool false)]) <|
    .rd (some 11) none none (.mv (.const (.bool false))) <|
    .done) <|
  .seq (.seq (.reg <| .rd (some 16) none none (.mv (.tmp 0)) <|
    .rd (some 17) none none (.eqn 4 false (.tmp 16) (.const (.pointer none))) <|
    .done) <|
  .cond (.tmp 17) (.seq (.reg <| .rd (some 18) none none (.bld [(.int .u32 0), (.int .u32 0), (.int .u64 0), (.int .u32 0), (.int .u64 0), (.int .u32 0), (.string ⟨#[]⟩), (.string ⟨#[]⟩), (.string ⟨#[]⟩), (.bool false)] []) <|
    .ef none none 0 (.st 10 (.tmp 10) (.tmp 18)) <|
    .rd (some 11) none none (.mv (.const (.bool false))) <|
    .done) <|
  .ret) <|
  .skip) <|
  .seq (.seq (.reg <| .rd (some 19) none none (.mv (.tmp 0)) <|
    .rd (some 20) none none (.nz (.tmp 19)) <|
    .rd (some 21) none none (.fa 1 (.tmp 20)) <|
    .rd (some 22) none none (.ld none (.tmp 21)) <|
    .rd (some 23) none none (.mv (.tmp 1)) <|
    .rd (some 24) none none (.mv (.tmp 2)) <|
    .ef (some 25) none 0 (.cl 36 [(.tmp 22), (.tmp 23), (.tmp 24), (.const (.int .i64 9223372036854775807))]) <|
    .rd (some 26) none none (.len (.tmp 25)) <|
    .rd (some 27) none none (.mv (.const (.int .i64 0))) <|
    .done) <|
  .block 0 <|
  .loop F12b0) <|
  .seq (.reg <| .rd (some 51) none none (.bld [(.int .u32 0), (.int .u32 0), (.int .u64 0), (.int .u32 0), (.int .u64 0), (.int .u32 0), (.string ⟨#[]⟩), (.string ⟨#[]⟩), (.string ⟨#[]⟩), (.bool false)] []) <|
    .ef none none 0 (.st 10 (.tmp 10) (.tmp 51)) <|
    .rd (some 11) none none (.mv (.const (.bool false))) <|
    .done) <|
  .ret⟩
def F12.k : List Nat := [0, 1, 2, 3, 4, 8, 10, 11, 13, 14, 17, 25, 26, 27, 28, 48]
theorem F12.ok : trF Try.prog 12 = some F12 := by kernel_rfl

/- (*dovecote.latch.Table).By -/
abbrev F13b0 : MC :=
  .seq (.reg <| .rd (some 30) none none (.bin .lss (.tmp 29) (.tmp 28)) <|
    .done) <|
  .seq (.cond (.tmp 30) (.skip) <|
  .exit 0) <|
  .seq (.block 1 <|
  .seq (.reg <| .rd (some 31) none none (.ia 3 (.tmp 27) (.tmp 29)) <|
    .rd (some 32) none none (.ld (some 3) (.tmp 31)) <|
    .ef (some 7) none 0 (.al 39 [(.string ⟨#[]⟩), (.string ⟨#[]⟩), (.bool false)]) <|
    .ef none none 0 (.st 3 (.tmp 7) (.tmp 32)) <|
    .done) <|
  .reg <| .rd (some 33) none none (.mv (.tmp 5)) <|
    .rd (some 34) none none (.mv (.tmp 0)) <|
    .rd (some 35) none none (.nz (.tmp 34)) <|
    .rd (some 36) none none (.fa 0 (.tmp 35)) <|
    .rd (some 37) none (some 3584) (.ld none (.tmp 36)) <|
    .rd (some 38) none (some 3584) (.ld (some 2) (.tmp 3)) <|
    .rd (some 39) none (some 3584) (.raw ⟨none, (.lookup 59 (.tmp 37) (.tmp 38) false), 71, "", #[], none⟩) <|
    .rd (some 40) none (some 3584) (.ld (some 2) (.tmp 3)) <|
    .rd (some 41) none (some 3584) (.ld (some 3) (.tmp 7)) <|
    .ef (some 42) none 9 (.cl 39 [(.tmp 39), (.tmp 40), (.tmp 41)]) <|
    .ef (some 43) none 10 (.raw ⟨none, (.buildSlice 42 1 #[(0, (.tmp 42))]), 42, "", #[], none⟩) <|
    .ef (some 44) none 11 (.raw ⟨none, (.call ⟨(.builtin .append), #[(.tmp 33), (.tmp 43)], #[42, 42]⟩), 42, "", #[], none⟩) <|
    .rd (some 5) none none (.mv (.tmp 44)) <|
    .done) <|
  .reg <| .rd (some 45) none none (.bin .add (.tmp 29) (.const (.int .i64 1))) <|
    .rd (some 29) none none (.mv (.tmp 45)) <|
    .done
def F13 : MF := ⟨47, [(4, none)],
  .seq (.reg <| .ef (some 3) none 0 (.bx 25 2 (.tmp 1)) <|
    .rd (some 4) none none (.mv (.const (.slice none 0 0))) <|
    .done) <|
  .seq (.seq (.reg <| .rd (some 8) none none (.mv (.tmp 0)) <|
    .rd (some 9) none none (.eqn 4 false (.tmp 8) (.const (.pointer none))) <|
    .rd (some 10) none none (.mv (.tmp 9)) <|
    .rd (some 11) (some (10, false)) none (.mv (.tmp 0)) <|
    .rd (some 12) (some (10, false)) none (.nz (.tmp 11)) <|
    .rd (some 13) (some (10, false)) none (.fa 0 (.tmp 12)) <|
    .rd (some 14) (some (10, false)) (some 0) (.ld none (.tmp 13)) <|
    .rd (some 15) (some (10, false)) (some 0) (.ld (some 2) (.tmp 3)) <|
    .rd (some 16) (some (10, false)) (some 0) (.raw ⟨none, (.lookup 59 (.tmp 14) (.tmp 15) false), 71, "", #[], none⟩) <|
    .rd (some 17) (some (10, false)) none (.eqn 4 false (.tmp 16) (.const (.pointer none))) <|
    .rd (some 18) none none (.pick (.tmp 10) (.const (.bool true)) (.tmp 17)) <|
    .done) <|
  .cond (.tmp 18) (.seq (.reg <| .rd (some 4) none none (.mv (.const (.slice none 0 0))) <|
    .done) <|
  .ret) <|
  .skip) <|
  .seq (.reg <| .rd (some 5) none none (.mv (.const (.slice none 0 0))) <|
    .done) <|
  .seq (.seq (.reg <| .rd (some 19) none none (.mv (.tmp 0)) <|
    .rd (some 20) none none (.nz (.tmp 19)) <|
    .rd (some 21) none none (.fa 0 (.tmp 20)) <|
    .rd (some 22) none (some 0) (.ld none (.tmp 21)) <|
    .rd (some 23) none (some 0) (.ld (some 2) (.tmp 3)) <|
    .rd (some 24) none (some 0) (.raw ⟨none, (.lookup 59 (.tmp 22) (.tmp 23) false), 71, "", #[], none⟩) <|
    .rd (some 25) none none (.nz (.tmp 24)) <|
    .rd (some 26) none none (.fa 5 (.tmp 25)) <|
    .rd (some 27) none (some 0) (.ld none (.tmp 26)) <|
    .rd (some 28) none none (.len (.tmp 27)) <|
    .rd (some 29) none none (.mv (.const (.int .i64 0))) <|
    .done) <|
  .block 0 <|
  .loop F13b0) <|
  .seq (.reg <| .rd (some 46) none none (.mv (.tmp 5)) <|
    .rd (some 4) none none (.mv (.tmp 46)) <|
    .done) <|
  .ret⟩
def F13.k : List Nat := [0, 1, 3, 4, 5, 7, 18, 27, 28, 29, 30]
theorem F13.ok : trF Try.prog 13 = some F13 := by kernel_rfl

/- (*dovecote.latch.Table).Cut -/
abbrev F14b0 : MC :=
  .seq (.reg <| .rd (some 14) none none (.bin .lss (.tmp 13) (.tmp 12)) <|
    .done) <|
  .seq (.cond (.tmp 14) (.skip) <|
  .exit 0) <|
  .seq (.block 1 <|
  .seq (.reg <| .rd (some 15) none none (.ia 10 (.tmp 11) (.tmp 13)) <|
    .rd (some 16) none none (.ld (some 10) (.tmp 15)) <|
    .ef (some 7) none 0 (.al 41 [(.int .u32 0), (.int .u32 0), (.int .u64 0), (.int .u32 0), (.int .u64 0), (.int .u32 0), (.string ⟨#[]⟩), (.string ⟨#[]⟩), (.string ⟨#[]⟩), (.bool false)]) <|
    .ef none none 0 (.st 10 (.tmp 7) (.tmp 16)) <|
    .done) <|
  .reg <| .rd (some 17) none none (.mv (.tmp 0)) <|
    .rd (some 18) none none (.nz (.tmp 17)) <|
    .rd (some 19) none none (.fa 1 (.tmp 18)) <|
    .rd (some 20) none (some 128) (.ld none (.tmp 19)) <|
    .rd (some 21) none none (.fa 7 (.tmp 7)) <|
    .rd (some 22) none none (.fa 0 (.tmp 21)) <|
    .rd (some 23) none (some 128) (.ld none (.tmp 22)) <|
    .ef (some 24) none 7 (.cl 40 [(.tmp 20), (.tmp 23)]) <|
    .done) <|
  .reg <| .rd (some 25) none none (.bin .add (.tmp 13) (.const (.int .i64 1))) <|
    .rd (some 13) none none (.mv (.tmp 25)) <|
    .done
def F14 : MF := ⟨34, [(4, none)],
  .seq (.reg <| .ef (some 3) none 0 (.bx 25 2 (.tmp 1)) <|
    .rd (some 4) none none (.mv (.const (.slice none 0 0))) <|
    .done) <|
  .seq (.reg <| .rd (some 8) none none (.mv (.tmp 0)) <|
    .rd (some 9) none none (.ld (some 2) (.tmp 3)) <|
    .ef (some 10) none 0 (.cl 13 [(.tmp 8), (.tmp 9)]) <|
    .rd (some 5) none none (.mv (.tmp 10)) <|
    .done) <|
  .seq (.seq (.reg <| .rd (some 11) none none (.mv (.tmp 5)) <|
    .rd (some 12) none none (.len (.tmp 11)) <|
    .rd (some 13) none none (.mv (.const (.int .i64 0))) <|
    .done) <|
  .block 0 <|
  .loop F14b0) <|
  .seq (.seq (.reg <| .rd (some 26) none none (.mv (.tmp 0)) <|
    .rd (some 27) none none (.eqn 4 true (.tmp 26) (.const (.pointer none))) <|
    .done) <|
  .cond (.tmp 27) (.reg <| .rd (some 28) none none (.mv (.tmp 0)) <|
    .rd (some 29) none none (.nz (.tmp 28)) <|
    .rd (some 30) none none (.fa 0 (.tmp 29)) <|
    .rd (some 31) none (some 32) (.ld none (.tmp 30)) <|
    .rd (some 32) none (some 32) (.ld (some 2) (.tmp 3)) <|
    .ef none none 5 (.raw ⟨none, (.call ⟨(.builtin .delete), #[(.tmp 31), (.tmp 32)], #[59, 25]⟩), 0, "", #[], none⟩) <|
    .done) <|
  .skip) <|
  .seq (.reg <| .rd (some 33) none none (.mv (.tmp 5)) <|
    .rd (some 4) none none (.mv (.tmp 33)) <|
    .done) <|
  .ret⟩
def F14.k : List Nat := [0, 1, 3, 4, 5, 7, 11, 12, 13, 14, 27]
theorem F14.ok : trF Try.prog 14 = some F14 := by kernel_rfl

/- dovecote.latch.Right -/
abbrev F15b0 : MC :=
  .seq (.reg <| .rd (some 10) none none (.bin .lss (.tmp 9) (.tmp 8)) <|
    .done) <|
  .seq (.cond (.tmp 10) (.skip) <|
  .exit 0) <|
  .seq (.block 1 <|
  .seq (.reg <| .rd (some 11) none none (.ia 3 (.tmp 7) (.tmp 9)) <|
    .rd (some 12) none none (.ld (some 3) (.tmp 11)) <|
    .ef (some 5) none 0 (.al 39 [(.string ⟨#[]⟩), (.string ⟨#[]⟩), (.bool false)]) <|
    .ef none none 0 (.st 3 (.tmp 5) (.tmp 12)) <|
    .done) <|
  .seq (.seq (.reg <| .rd (some 13) none none (.mv (.tmp 0)) <|
    .rd (some 14) none none (.len (.tmp 13)) <|
    .rd (some 15) none none (.bin .gtr (.tmp 14) (.const (.int .i64 16))) <|
    .rd (some 16) none none (.mv (.tmp 15)) <|
    .rd (some 17) (some (16, false)) none (.fa 0 (.tmp 5)) <|
    .rd (some 18) (some (16, false)) none (.ld none (.tmp 17)) <|
    .ef (some 19) (some (16, false)) 0 (.cl 28 [(.tmp 18)]) <|
    .rd (some 20) (some (16, false)) none (.un .not (.tmp 19)) <|
    .rd (some 21) none none (.pick (.tmp 16) (.const (.bool true)) (.tmp 20)) <|
    .rd (some 22) none none (.mv (.tmp 21)) <|
    .rd (some 23) (some (22, false)) none (.fa 1 (.tmp 5)) <|
    .rd (some 24) (some (22, false)) none (.ld none (.tmp 23)) <|
    .rd (some 25) (some (22, false)) none (.slen (.tmp 24)) <|
    .rd (some 26) (some (22, false)) none (.bin .gtr (.tmp 25) (.const (.int .i64 256))) <|
    .rd (some 27) none none (.pick (.tmp 22) (.const (.bool true)) (.tmp 26)) <|
    .rd (some 28) none none (.mv (.tmp 27)) <|
    .rd (some 29) (some (28, false)) none (.fa 2 (.tmp 5)) <|
    .rd (some 30) (some (28, false)) none (.ld none (.tmp 29)) <|
    .rd (some 31) (some (28, false)) none (.mv (.tmp 30)) <|
    .rd (some 32) (some (31, true)) none (.fa 1 (.tmp 5)) <|
    .rd (some 33) (some (31, true)) none (.ld none (.tmp 32)) <|
    .rd (some 34) (some (31, true)) none (.bin .neq (.tmp 33) (.const (.string ⟨#[]⟩))) <|
    .rd (some 35) (some (28, false)) none (.pick (.tmp 31) (.tmp 34) (.const (.bool false))) <|
    .rd (some 36) none none (.pick (.tmp 28) (.const (.bool true)) (.tmp 35)) <|
    .rd (some 37) none none (.mv (.tmp 36)) <|
    .rd (some 38) (some (37, false)) none (.mv (.tmp 3)) <|
    .rd (some 39) (some (37, false)) none (.fa 0 (.tmp 5)) <|
    .rd (some 40) (some (37, false)) none (.ld none (.tmp 39)) <|
    .rd (some 41) (some (37, false)) none (.raw ⟨none, (.lookup 84 (.tmp 38) (.tmp 40) false), 4, "", #[], none⟩) <|
    .rd (some 42) none none (.pick (.tmp 37) (.const (.bool true)) (.tmp 41)) <|
    .done) <|
  .cond (.tmp 42) (.seq (.reg <| .rd (some 2) none none (.mv (.const (.bool false))) <|
    .done) <|
  .ret) <|
  .skip) <|
  .reg <| .rd (some 43) none none (.mv (.tmp 3)) <|
    .rd (some 44) none none (.fa 0 (.tmp 5)) <|
    .rd (some 45) none none (.ld none (.tmp 44)) <|
    .ef none none 0 (.raw ⟨none, (.mapUpdate 84 (.tmp 43) (.tmp 45) (.const (.bool true))), 0, "", #[], none⟩) <|
    .done) <|
  .reg <| .rd (some 46) none none (.bin .add (.tmp 9) (.const (.int .i64 1))) <|
    .rd (some 9) none none (.mv (.tmp 46)) <|
    .done
def F15 : MF := ⟨50, [(2, none)],
  .seq (.reg <| .rd (some 2) none none (.mv (.const (.bool false))) <|
    .done) <|
  .seq (.reg <| .ef (some 6) none 0 (.raw ⟨none, (.makeMap 84 none), 84, "", #[], none⟩) <|
    .rd (some 3) none none (.mv (.tmp 6)) <|
    .done) <|
  .seq (.seq (.reg <| .rd (some 7) none none (.mv (.tmp 0)) <|
    .rd (some 8) none none (.len (.tmp 7)) <|
    .rd (some 9) none none (.mv (.const (.int .i64 0))) <|
    .done) <|
  .block 0 <|
  .loop F15b0) <|
  .seq (.reg <| .rd (some 47) none none (.mv (.tmp 0)) <|
    .rd (some 48) none none (.len (.tmp 47)) <|
    .rd (some 49) none none (.bin .gtr (.tmp 48) (.const (.int .i64 0))) <|
    .rd (some 2) none none (.mv (.tmp 49)) <|
    .done) <|
  .ret⟩
def F15.k : List Nat := [0, 2, 3, 5, 7, 8, 9, 10, 42]
theorem F15.ok : trF Try.prog 15 = some F15 := by kernel_rfl

/- (*dovecote.latch.Table).Raise -/
def F16 : MF := ⟨40, [(6, none)],
  .seq (.reg <| .ef (some 4) none 0 (.bx 25 2 (.tmp 1)) <|
    .ef (some 5) none 0 (.bx 28 2 (.tmp 2)) <|
    .rd (some 6) none none (.mv (.const (.bool false))) <|
    .done) <|
  .seq (.seq (.reg <| .rd (some 8) none none (.mv (.tmp 0)) <|
    .rd (some 9) none none (.eqn 4 false (.tmp 8) (.const (.pointer none))) <|
    .rd (some 10) none none (.mv (.tmp 9)) <|
    .rd (some 11) (some (10, false)) none (.mv (.tmp 0)) <|
    .rd (some 12) (some (10, false)) none (.nz (.tmp 11)) <|
    .rd (some 13) (some (10, false)) none (.fa 0 (.tmp 12)) <|
    .rd (some 14) (some (10, false)) (some 8192) (.ld none (.tmp 13)) <|
    .rd (some 15) (some (10, false)) (some 8192) (.ld (some 2) (.tmp 4)) <|
    .rd (some 16) (some (10, false)) (some 8192) (.raw ⟨none, (.lookup 59 (.tmp 14) (.tmp 15) false), 71, "", #[], none⟩) <|
    .rd (some 17) (some (10, false)) none (.eqn 4 false (.tmp 16) (.const (.pointer none))) <|
    .rd (some 18) none none (.pick (.tmp 10) (.const (.bool true)) (.tmp 17)) <|
    .rd (some 19) none none (.mv (.tmp 18)) <|
    .rd (some 20) (some (19, false)) (some 8192) (.ld (some 2) (.tmp 5)) <|
    .ef (some 21) (some (19, false)) 13 (.cl 27 [(.tmp 20)]) <|
    .rd (some 22) (some (19, false)) none (.un .not (.tmp 21)) <|
    .rd (some 23) none none (.pick (.tmp 19) (.const (.bool true)) (.tmp 22)) <|
    .done) <|
  .cond (.tmp 23) (.seq (.reg <| .rd (some 6) none none (.mv (.const (.bool false))) <|
    .done) <|
  .ret) <|
  .skip) <|
  .seq (.reg <| .rd (some 24) none none (.mv (.tmp 0)) <|
    .rd (some 25) none none (.nz (.tmp 24)) <|
    .rd (some 26) none none (.fa 0 (.tmp 25)) <|
    .rd (some 27) none (some 0) (.ld none (.tmp 26)) <|
    .rd (some 28) none (some 0) (.ld (some 2) (.tmp 4)) <|
    .rd (some 29) none (some 0) (.raw ⟨none, (.lookup 59 (.tmp 27) (.tmp 28) false), 71, "", #[], none⟩) <|
    .rd (some 7) none none (.mv (.tmp 29)) <|
    .done) <|
  .seq (.reg <| .rd (some 30) none none (.mv (.tmp 7)) <|
    .rd (some 31) none none (.mv (.tmp 7)) <|
    .rd (some 32) none none (.nz (.tmp 31)) <|
    .rd (some 33) none none (.fa 2 (.tmp 32)) <|
    .rd (some 34) none (some 1216) (.ld (some 2) (.tmp 33)) <|
    .rd (some 35) none (some 1216) (.ld (some 2) (.tmp 5)) <|
    .ef (some 36) none 6 (.raw ⟨none, (.buildSlice 104 2 #[(0, (.tmp 34)), (1, (.tmp 35))]), 104, "", #[], none⟩) <|
    .ef (some 37) none 7 (.cl 41 [(.tmp 36)]) <|
    .rd (some 38) none none (.nz (.tmp 30)) <|
    .rd (some 39) none none (.fa 2 (.tmp 38)) <|
    .ef none none 10 (.st 2 (.tmp 39) (.tmp 37)) <|
    .done) <|
  .seq (.reg <| .rd (some 6) none none (.mv (.const (.bool true))) <|
    .done) <|
  .ret⟩
def F16.k : List Nat := [0, 1, 2, 4, 5, 6, 7, 23]
theorem F16.ok : trF Try.prog 16 = some F16 := by kernel_rfl

/- (*dovecote.latch.Table).Of -/
def F17 : MF := ⟨35, [(4, (some (some 10))), (5, none)],
  .seq (.reg <| .ef (some 4) none 0 (.al 41 [(.int .u32 0), (.int .u32 0), (.int .u64 0), (.int .u32 0), (.int .u64 0), (.int .u32 0), (.string ⟨#[]⟩), (.string ⟨#[]⟩), (.string ⟨#[]⟩), (.bool false)]) <|
    .rd (some 5) none none (.mv (.const (.bool false))) <|
    .done) <|
  .seq (.seq (.reg <| .rd (some 8) none none (.mv (.tmp 0)) <|
    .rd (some 9) none none (.eqn 4 false (.tmp 8) (.const (.pointer none))) <|
    .done) <|
  .cond (.tmp 9) (.seq (.reg <| .rd (some 10) none none (.bld [(.int .u32 0), (.int .u32 0), (.int .u64 0), (.int .u32 0), (.int .u64 0), (.int .u32 0), (.string ⟨#[]⟩), (.string ⟨#[]⟩), (.string ⟨#[]⟩), (.bool false)] []) <|
    .ef none none 0 (.st 10 (.tmp 4) (.tmp 10)) <|
    .rd (some 5) none none (.mv (.const (.bool false))) <|
    .done) <|
  .ret) <|
  .skip) <|
  .seq (.reg <| .rd (some 12) none none (.mv (.tmp 0)) <|
    .rd (some 13) none none (.nz (.tmp 12)) <|
    .rd (some 14) none none (.fa 1 (.tmp 13)) <|
    .rd (some 15) none none (.ld none (.tmp 14)) <|
    .rd (some 16) none none (.mv (.tmp 1)) <|
    .ef (some 17) none 0 (.cl 30 [(.tmp 15), (.tmp 16)]) <|
    .rd (some 11) none none (.mv (.tmp 17)) <|
    .rd (some 18) none none (.ext (.tmp 11) 0) <|
    .rd (some 19) none none (.ext (.tmp 11) 1) <|
    .ef (some 6) none 0 (.al 63 [(.int .u32 0), (.int .u32 0), (.string ⟨#[]⟩), (.string ⟨#[]⟩), (.bool false)]) <|
    .ef none none 0 (.st 5 (.tmp 6) (.tmp 18)) <|
    .rd (some 7) none none (.mv (.tmp 19)) <|
    .done) <|
  .seq (.seq (.reg <| .rd (some 20) none none (.mv (.tmp 7)) <|
    .rd (some 21) none none (.un .not (.tmp 20)) <|
    .done) <|
  .cond (.tmp 21) (.seq (.reg <| .rd (some 22) none none (.bld [(.int .u32 0), (.int .u32 0), (.int .u64 0), (.int .u32 0), (.int .u64 0), (.int .u32 0), (.string ⟨#[]⟩), (.string ⟨#[]⟩), (.string ⟨#[]⟩), (.bool false)] []) <|
    .ef none none 0 (.st 10 (.tmp 4) (.tmp 22)) <|
    .rd (some 5) none none (.mv (.const (.bool false))) <|
    .done) <|
  .ret) <|
  .skip) <|
  .seq (.reg <| .rd (some 23) none none (.mv (.tmp 0)) <|
    .rd (some 24) none none (.nz (.tmp 23)) <|
    .rd (some 25) none none (.fa 0 (.tmp 24)) <|
    .rd (some 26) none (some 6144) (.ld none (.tmp 25)) <|
    .rd (some 27) none none (.fa 0 (.tmp 6)) <|
    .rd (some 28) none (some 6144) (.ld (some 2) (.tmp 27)) <|
    .rd (some 29) none (some 6144) (.raw ⟨none, (.lookup 59 (.tmp 26) (.tmp 28) false), 71, "", #[], none⟩) <|
    .rd (some 30) none none (.fa 0 (.tmp 6)) <|
    .rd (some 31) none (some 6144) (.ld (some 2) (.tmp 30)) <|
    .rd (some 32) none none (.fa 2 (.tmp 6)) <|
    .rd (some 33) none (some 6144) (.ld (some 3) (.tmp 32)) <|
    .ef (some 34) none 11 (.cl 39 [(.tmp 29), (.tmp 31), (.tmp 33)]) <|
    .ef none none 12 (.st 10 (.tmp 4) (.tmp 34)) <|
    .rd (some 5) none none (.mv (.const (.bool true))) <|
    .done) <|
  .ret⟩
def F17.k : List Nat := [0, 1, 4, 5, 6, 7, 9, 21]
theorem F17.ok : trF Try.prog 17 = some F17 := by kernel_rfl

/- dovecote.stamp.Right -/
def F27 : MF := ⟨11, [(2, none)],
  .seq (.reg <| .ef (some 1) none 0 (.bx 28 2 (.tmp 0)) <|
    .rd (some 2) none none (.mv (.const (.bool false))) <|
    .done) <|
  .seq (.reg <| .rd (some 3) none none (.fa 0 (.tmp 1)) <|
    .rd (some 4) none none (.ld none (.tmp 3)) <|
    .rd (some 5) none none (.bin .leq (.tmp 4) (.const (.int .u64 281474976710656))) <|
    .rd (some 6) none none (.mv (.tmp 5)) <|
    .rd (some 7) (some (6, true)) none (.fa 1 (.tmp 1)) <|
    .rd (some 8) (some (6, true)) none (.ld none (.tmp 7)) <|
    .rd (some 9) (some (6, true)) none (.bin .leq (.tmp 8) (.const (.int .u32 4095))) <|
    .rd (some 10) none none (.pick (.tmp 6) (.tmp 9) (.const (.bool false))) <|
    .rd (some 2) none none (.mv (.tmp 10)) <|
    .done) <|
  .ret⟩
def F27.k : List Nat := [0, 1, 2]
theorem F27.ok : trF Try.prog 27 = some F27 := by kernel_rfl

/- dovecote.latch.key -/
def F28 : MF := ⟨11, [(2, none)],
  .seq (.reg <| .rd (some 2) none none (.mv (.const (.bool false))) <|
    .done) <|
  .seq (.reg <| .rd (some 3) none none (.mv (.tmp 0)) <|
    .rd (some 4) none none (.slen (.tmp 3)) <|
    .rd (some 5) none none (.bin .geq (.tmp 4) (.const (.int .i64 1))) <|
    .rd (some 6) none none (.mv (.tmp 5)) <|
    .rd (some 7) (some (6, true)) none (.mv (.tmp 0)) <|
    .rd (some 8) (some (6, true)) none (.slen (.tmp 7)) <|
    .rd (some 9) (some (6, true)) none (.bin .leq (.tmp 8) (.const (.int .i64 32))) <|
    .rd (some 10) none none (.pick (.tmp 6) (.tmp 9) (.const (.bool false))) <|
    .rd (some 2) none none (.mv (.tmp 10)) <|
    .done) <|
  .ret⟩
def F28.k : List Nat := [0, 2]
theorem F28.ok : trF Try.prog 28 = some F28 := by kernel_rfl

/- (*dovecote.latch.Table).Lay$1 -/
def F29 : MF := ⟨17, [(3, none)],
  .seq (.reg <| .ef (some 2) none 0 (.bx 39 3 (.tmp 0)) <|
    .rd (some 3) none none (.mv (.const (.bool false))) <|
    .done) <|
  .seq (.reg <| .rd (some 7) none (some 2112) (.ld none (.tmp 1)) <|
    .rd (some 8) none none (.nz (.tmp 7)) <|
    .rd (some 9) none none (.fa 1 (.tmp 8)) <|
    .rd (some 10) none (some 2112) (.ld none (.tmp 9)) <|
    .rd (some 11) none none (.fa 0 (.tmp 2)) <|
    .rd (some 12) none (some 2112) (.ld none (.tmp 11)) <|
    .alt (.ef (some 13) none 6 (.cl 30 [(.tmp 10), (.tmp 12)]) <|
    .rd (some 6) none none (.mv (.tmp 13)) <|
    .rd (some 14) none none (.ext (.tmp 6) 0) <|
    .rd (some 15) none none (.ext (.tmp 6) 1) <|
    .ef (some 4) none 10 (.al 63 [(.int .u32 0), (.int .u32 0), (.string ⟨#[]⟩), (.string ⟨#[]⟩), (.bool false)]) <|
    .ef none none 11 (.st 5 (.tmp 4) (.tmp 14)) <|
    .rd (some 5) none none (.mv (.tmp 15)) <|
    .done) <|
    .ef (some 4) none 10 (.al 63 [(.int .u32 0), (.int .u32 0), (.string ⟨#[]⟩), (.string ⟨#[]⟩), (.bool false)]) <|
    .ef (some 13) none 6 (.cl 30 [(.tmp 10), (.tmp 12)]) <|
    .rd (some 6) none none (.mv (.tmp 13)) <|
    .rd (some 14) none none (.ext (.tmp 6) 0) <|
    .rd (some 15) none none (.ext (.tmp 6) 1) <|
    .ef none none 11 (.st 5 (.tmp 4) (.tmp 14)) <|
    .rd (some 5) none none (.mv (.tmp 15)) <|
    .done) <|
  .seq (.reg <| .rd (some 16) none none (.mv (.tmp 5)) <|
    .rd (some 3) none none (.mv (.tmp 16)) <|
    .done) <|
  .ret⟩
def F29.k : List Nat := [0, 1, 2, 3, 5]
theorem F29.ok : trF Try.prog 29 = some F29 := by kernel_rfl

/- slices.ContainsFunc[[]dovecote.api.Write,dovecote.api.Write] -/
def F31 : MF := ⟨9, [(4, none)],
  .seq (.reg <| .rd (some 4) none none (.mv (.const (.bool false))) <|
    .done) <|
  .seq (.reg <| .rd (some 5) none none (.mv (.tmp 0)) <|
    .rd (some 6) none none (.mv (.tmp 1)) <|
    .ef (some 7) none 0 (.cl 48 [(.tmp 5), (.tmp 6)]) <|
    .rd (some 8) none none (.bin .geq (.tmp 7) (.const (.int .i64 0))) <|
    .rd (some 4) none none (.mv (.tmp 8)) <|
    .done) <|
  .ret⟩
def F31.k : List Nat := [0, 1, 4]
theorem F31.ok : trF Try.prog 31 = some F31 := by kernel_rfl

/- slices.Clone[[]dovecote.api.Write,dovecote.api.Write] -/
def F32 : MF := ⟨8, [(2, none)],
  .seq (.reg <| .rd (some 2) none none (.mv (.const (.slice none 0 0))) <|
    .done) <|
  .seq (.seq (.reg <| .rd (some 3) none none (.mv (.tmp 0)) <|
    .rd (some 4) none none (.eqn 6 false (.tmp 3) (.const (.slice none 0 0))) <|
    .done) <|
  .cond (.tmp 4) (.seq (.reg <| .rd (some 2) none none (.mv (.const (.slice none 0 0))) <|
    .done) <|
  .ret) <|
  .skip) <|
  .seq (.reg <| .ef (some 5) none 0 (.raw ⟨none, (.buildSlice 29 0 #[]), 29, "", #[], none⟩) <|
    .rd (some 6) none none (.mv (.tmp 0)) <|
    .ef (some 7) none 0 (.raw ⟨none, (.call ⟨(.builtin .append), #[(.tmp 5), (.tmp 6)], #[29, 29]⟩), 29, "", #[], none⟩) <|
    .rd (some 2) none none (.mv (.tmp 7)) <|
    .done) <|
  .ret⟩
def F32.k : List Nat := [0, 2, 4]
theorem F32.ok : trF Try.prog 32 = some F32 := by kernel_rfl

/- (*dovecote.latch.Table).Lay$2 -/
def F34 : MF := ⟨10, [(4, none)],
  .seq (.reg <| .ef (some 2) none 0 (.bx 39 3 (.tmp 0)) <|
    .ef (some 3) none 0 (.bx 39 3 (.tmp 1)) <|
    .rd (some 4) none none (.mv (.const (.int .i64 0))) <|
    .done) <|
  .seq (.seq (.reg <| .rd (some 5) none none (.fa 0 (.tmp 2)) <|
    .rd (some 6) none none (.ld none (.tmp 5)) <|
    .rd (some 7) none none (.fa 0 (.tmp 3)) <|
    .rd (some 8) none none (.ld none (.tmp 7)) <|
    .rd (some 9) none none (.bin .lss (.tmp 6) (.tmp 8)) <|
    .done) <|
  .cond (.tmp 9) (.seq (.reg <| .rd (some 4) none none (.mv (.const (.int .i64 (-1)))) <|
    .done) <|
  .ret) <|
  .skip) <|
  .seq (.reg <| .rd (some 4) none none (.mv (.const (.int .i64 1))) <|
    .done) <|
  .ret⟩
def F34.k : List Nat := [0, 1, 2, 3, 4, 9]
theorem F34.ok : trF Try.prog 34 = some F34 := by kernel_rfl

/- dovecote.stamp.Less -/
def F37 : MF := ⟨18, [(4, none)],
  .seq (.reg <| .ef (some 2) none 0 (.bx 28 2 (.tmp 0)) <|
    .ef (some 3) none 0 (.bx 28 2 (.tmp 1)) <|
    .rd (some 4) none none (.mv (.const (.bool false))) <|
    .done) <|
  .seq (.reg <| .rd (some 5) none none (.fa 0 (.tmp 2)) <|
    .rd (some 6) none (some 3600) (.ld none (.tmp 5)) <|
    .rd (some 7) none none (.fa 0 (.tmp 3)) <|
    .rd (some 8) none (some 3600) (.ld none (.tmp 7)) <|
    .rd (some 10) none none (.fa 1 (.tmp 2)) <|
    .rd (some 11) none (some 3584) (.ld none (.tmp 10)) <|
    .rd (some 12) none none (.fa 1 (.tmp 3)) <|
    .rd (some 13) none (some 3584) (.ld none (.tmp 12)) <|
    .ef (some 9) none 4 (.cl 54 [(.tmp 6), (.tmp 8)]) <|
    .ef (some 14) none 9 (.cl 55 [(.tmp 11), (.tmp 13)]) <|
    .ef (some 15) none 10 (.raw ⟨none, (.buildSlice 116 2 #[(0, (.tmp 9)), (1, (.tmp 14))]), 116, "", #[], none⟩) <|
    .ef (some 16) none 11 (.cl 53 [(.tmp 15)]) <|
    .rd (some 17) none none (.bin .lss (.tmp 16) (.const (.int .i64 0))) <|
    .rd (some 4) none none (.mv (.tmp 17)) <|
    .done) <|
  .ret⟩
def F37.k : List Nat := [0, 1, 2, 3, 4]
theorem F37.ok : trF Try.prog 37 = some F37 := by kernel_rfl

/- slices.Contains[[]dovecote.api.Txn,dovecote.api.Txn] -/
def F38 : MF := ⟨9, [(4, none)],
  .seq (.reg <| .ef (some 3) none 0 (.bx 25 2 (.tmp 1)) <|
    .rd (some 4) none none (.mv (.const (.bool false))) <|
    .done) <|
  .seq (.reg <| .rd (some 5) none none (.mv (.tmp 0)) <|
    .rd (some 6) none none (.ld (some 2) (.tmp 3)) <|
    .ef (some 7) none 0 (.cl 56 [(.tmp 5), (.tmp 6)]) <|
    .rd (some 8) none none (.bin .geq (.tmp 7) (.const (.int .i64 0))) <|
    .rd (some 4) none none (.mv (.tmp 8)) <|
    .done) <|
  .ret⟩
def F38.k : List Nat := [0, 1, 3, 4]
theorem F38.ok : trF Try.prog 38 = some F38 := by kernel_rfl

/- (*dovecote.latch.holder).intent -/
def F39 : MF := ⟨22, [(6, (some (some 10)))],
  .seq (.reg <| .ef (some 4) none 0 (.bx 25 2 (.tmp 1)) <|
    .ef (some 5) none 0 (.bx 39 3 (.tmp 2)) <|
    .ef (some 6) none 0 (.al 41 [(.int .u32 0), (.int .u32 0), (.int .u64 0), (.int .u32 0), (.int .u64 0), (.int .u32 0), (.string ⟨#[]⟩), (.string ⟨#[]⟩), (.string ⟨#[]⟩), (.bool false)]) <|
    .done) <|
  .seq (.reg <| .rd (some 7) none (some 32768) (.ld (some 2) (.tmp 4)) <|
    .rd (some 8) none none (.mv (.tmp 0)) <|
    .rd (some 9) none none (.nz (.tmp 8)) <|
    .rd (some 10) none none (.fa 0 (.tmp 9)) <|
    .rd (some 11) none (some 32768) (.ld (some 2) (.tmp 10)) <|
    .rd (some 12) none none (.mv (.tmp 0)) <|
    .rd (some 13) none none (.nz (.tmp 12)) <|
    .rd (some 14) none none (.fa 2 (.tmp 13)) <|
    .rd (some 15) none (some 32768) (.ld (some 2) (.tmp 14)) <|
    .rd (some 16) none none (.mv (.tmp 0)) <|
    .rd (some 17) none none (.nz (.tmp 16)) <|
    .rd (some 18) none none (.fa 4 (.tmp 17)) <|
    .rd (some 19) none (some 32768) (.ld none (.tmp 18)) <|
    .rd (some 20) none (some 32768) (.ld (some 3) (.tmp 5)) <|
    .rd (some 21) none none (.bld [(.int .u32 0), (.int .u32 0), (.int .u64 0), (.int .u32 0), (.int .u64 0), (.int .u32 0), (.string ⟨#[]⟩), (.string ⟨#[]⟩), (.string ⟨#[]⟩), (.bool false)] [(0, 2, (.tmp 7)), (2, 2, (.tmp 11)), (4, 2, (.tmp 15)), (6, 1, (.tmp 19)), (7, 3, (.tmp 20))]) <|
    .ef none none 15 (.st 10 (.tmp 6) (.tmp 21)) <|
    .done) <|
  .ret⟩
def F39.k : List Nat := [0, 1, 2, 4, 5, 6]
theorem F39.ok : trF Try.prog 39 = some F39 := by kernel_rfl

/- dovecote.stamp.Max -/
abbrev F41b0 : MC :=
  .seq (.reg <| .rd (some 9) none none (.bin .lss (.tmp 8) (.tmp 7)) <|
    .done) <|
  .seq (.cond (.tmp 9) (.skip) <|
  .exit 0) <|
  .seq (.block 1 <|
  .seq (.reg <| .rd (some 10) none none (.ia 2 (.tmp 6) (.tmp 8)) <|
    .rd (some 11) none none (.ld (some 2) (.tmp 10)) <|
    .ef (some 5) none 0 (.al 28 [(.int .u64 0), (.int .u32 0)]) <|
    .ef none none 0 (.st 2 (.tmp 5) (.tmp 11)) <|
    .done) <|
  .seq (.reg <| .rd (some 12) none none (.ld (some 2) (.tmp 3)) <|
    .rd (some 13) none none (.ld (some 2) (.tmp 5)) <|
    .ef (some 14) none 0 (.cl 37 [(.tmp 12), (.tmp 13)]) <|
    .done) <|
  .cond (.tmp 14) (.reg <| .rd (some 15) none none (.ld (some 2) (.tmp 5)) <|
    .ef none none 0 (.st 2 (.tmp 3) (.tmp 15)) <|
    .done) <|
  .skip) <|
  .reg <| .rd (some 16) none none (.bin .add (.tmp 8) (.const (.int .i64 1))) <|
    .rd (some 8) none none (.mv (.tmp 16)) <|
    .done
def F41 : MF := ⟨18, [(2, (some (some 2)))],
  .seq (.reg <| .ef (some 2) none 0 (.al 28 [(.int .u64 0), (.int .u32 0)]) <|
    .done) <|
  .seq (.reg <| .ef (some 3) none 0 (.al 28 [(.int .u64 0), (.int .u32 0)]) <|
    .done) <|
  .seq (.seq (.reg <| .rd (some 6) none none (.mv (.tmp 0)) <|
    .rd (some 7) none none (.len (.tmp 6)) <|
    .rd (some 8) none none (.mv (.const (.int .i64 0))) <|
    .done) <|
  .block 0 <|
  .loop F41b0) <|
  .seq (.reg <| .rd (some 17) none none (.ld (some 2) (.tmp 3)) <|
    .ef none none 0 (.st 2 (.tmp 2) (.tmp 17)) <|
    .done) <|
  .ret⟩
def F41.k : List Nat := [0, 2, 3, 5, 6, 7, 8, 9, 14]
theorem F41.ok : trF Try.prog 41 = some F41 := by kernel_rfl

/- slices.IndexFunc[[]dovecote.api.Write,dovecote.api.Write] -/
abbrev F48b0 : MC :=
  .seq (.reg <| .rd (some 9) none none (.bin .lss (.tmp 8) (.tmp 7)) <|
    .done) <|
  .seq (.cond (.tmp 9) (.skip) <|
  .exit 0) <|
  .seq (.block 1 <|
  .seq (.reg <| .rd (some 10) none none (.mv (.tmp 8)) <|
    .rd (some 5) none none (.mv (.tmp 10)) <|
    .done) <|
  .seq (.reg <| .rd (some 11) none none (.mv (.tmp 1)) <|
    .rd (some 12) none none (.mv (.tmp 0)) <|
    .rd (some 13) none none (.mv (.tmp 5)) <|
    .rd (some 14) none none (.ia 3 (.tmp 12) (.tmp 13)) <|
    .rd (some 15) none none (.ld (some 3) (.tmp 14)) <|
    .ef (some 16) none 0 (.cv (.tmp 11) [(.tmp 15)]) <|
    .done) <|
  .cond (.tmp 16) (.seq (.reg <| .rd (some 17) none none (.mv (.tmp 5)) <|
    .rd (some 4) none none (.mv (.tmp 17)) <|
    .done) <|
  .ret) <|
  .skip) <|
  .reg <| .rd (some 18) none none (.bin .add (.tmp 8) (.const (.int .i64 1))) <|
    .rd (some 8) none none (.mv (.tmp 18)) <|
    .done
def F48 : MF := ⟨19, [(4, none)],
  .seq (.reg <| .rd (some 4) none none (.mv (.const (.int .i64 0))) <|
    .done) <|
  .seq (.seq (.reg <| .rd (some 6) none none (.mv (.tmp 0)) <|
    .rd (some 7) none none (.len (.tmp 6)) <|
    .rd (some 8) none none (.mv (.const (.int .i64 0))) <|
    .done) <|
  .block 0 <|
  .loop F48b0) <|
  .seq (.reg <| .rd (some 4) none none (.mv (.const (.int .i64 (-1)))) <|
    .done) <|
  .ret⟩
def F48.k : List Nat := [0, 1, 4, 5, 7, 8, 9, 16]
theorem F48.ok : trF Try.prog 48 = some F48 := by kernel_rfl

/- cmp.Or[int] -/
abbrev F53b0 : MC :=
  .seq (.reg <| .rd (some 9) none none (.bin .lss (.tmp 8) (.tmp 7)) <|
    .done) <|
  .seq (.cond (.tmp 9) (.skip) <|
  .exit 0) <|
  .seq (.block 1 <|
  .seq (.reg <| .rd (some 10) none none (.ia 1 (.tmp 6) (.tmp 8)) <|
    .rd (some 11) none none (.ld none (.tmp 10)) <|
    .rd (some 5) none none (.mv (.tmp 11)) <|
    .done) <|
  .seq (.reg <| .rd (some 12) none none (.mv (.tmp 5)) <|
    .rd (some 13) none none (.mv (.tmp 3)) <|
    .rd (some 14) none none (.bin .neq (.tmp 12) (.tmp 13)) <|
    .done) <|
  .cond (.tmp 14) (.seq (.reg <| .rd (some 15) none none (.mv (.tmp 5)) <|
    .rd (some 2) none none (.mv (.tmp 15)) <|
    .done) <|
  .ret) <|
  .skip) <|
  .reg <| .rd (some 16) none none (.bin .add (.tmp 8) (.const (.int .i64 1))) <|
    .rd (some 8) none none (.mv (.tmp 16)) <|
    .done
def F53 : MF := ⟨18, [(2, none)],
  .seq (.reg <| .rd (some 2) none none (.mv (.const (.int .i64 0))) <|
    .done) <|
  .seq (.reg <| .rd (some 3) none none (.mv (.const (.int .i64 0))) <|
    .done) <|
  .seq (.seq (.reg <| .rd (some 6) none none (.mv (.tmp 0)) <|
    .rd (some 7) none none (.len (.tmp 6)) <|
    .rd (some 8) none none (.mv (.const (.int .i64 0))) <|
    .done) <|
  .block 0 <|
  .loop F53b0) <|
  .seq (.reg <| .rd (some 17) none none (.mv (.tmp 3)) <|
    .rd (some 2) none none (.mv (.tmp 17)) <|
    .done) <|
  .ret⟩
def F53.k : List Nat := [0, 2, 3, 5, 6, 7, 8, 9, 14]
theorem F53.ok : trF Try.prog 53 = some F53 := by kernel_rfl

/- cmp.Compare[uint64] -/
def F54 : MF := ⟨20, [(4, none)],
  .seq (.reg <| .rd (some 4) none none (.mv (.const (.int .i64 0))) <|
    .done) <|
  .seq (.reg <| .rd (some 7) none none (.mv (.tmp 0)) <|
    .ef (some 8) none 0 (.cl 69 [(.tmp 7)]) <|
    .rd (some 5) none none (.mv (.tmp 8)) <|
    .done) <|
  .seq (.reg <| .rd (some 9) none none (.mv (.tmp 1)) <|
    .ef (some 10) none 0 (.cl 69 [(.tmp 9)]) <|
    .rd (some 6) none none (.mv (.tmp 10)) <|
    .done) <|
  .seq (.seq (.reg <| .rd (some 11) none none (.mv (.tmp 5)) <|
    .done) <|
  .cond (.tmp 11) (.seq (.seq (.reg <| .rd (some 12) none none (.mv (.tmp 6)) <|
    .done) <|
  .cond (.tmp 12) (.seq (.reg <| .rd (some 4) none none (.mv (.const (.int .i64 0))) <|
    .done) <|
  .ret) <|
  .skip) <|
  .seq (.reg <| .rd (some 4) none none (.mv (.const (.int .i64 (-1)))) <|
    .done) <|
  .ret) <|
  .skip) <|
  .seq (.seq (.reg <| .rd (some 13) none none (.mv (.tmp 6)) <|
    .done) <|
  .cond (.tmp 13) (.seq (.reg <| .rd (some 4) none none (.mv (.const (.int .i64 1))) <|
    .done) <|
  .ret) <|
  .skip) <|
  .seq (.seq (.reg <| .rd (some 14) none none (.mv (.tmp 0)) <|
    .rd (some 15) none none (.mv (.tmp 1)) <|
    .rd (some 16) none none (.bin .lss (.tmp 14) (.tmp 15)) <|
    .done) <|
  .cond (.tmp 16) (.seq (.reg <| .rd (some 4) none none (.mv (.const (.int .i64 (-1)))) <|
    .done) <|
  .ret) <|
  .skip) <|
  .seq (.seq (.reg <| .rd (some 17) none none (.mv (.tmp 0)) <|
    .rd (some 18) none none (.mv (.tmp 1)) <|
    .rd (some 19) none none (.bin .gtr (.tmp 17) (.tmp 18)) <|
    .done) <|
  .cond (.tmp 19) (.seq (.reg <| .rd (some 4) none none (.mv (.const (.int .i64 1))) <|
    .done) <|
  .ret) <|
  .skip) <|
  .seq (.reg <| .rd (some 4) none none (.mv (.const (.int .i64 0))) <|
    .done) <|
  .ret⟩
def F54.k : List Nat := [0, 1, 4, 5, 6, 11, 12, 13, 16, 19]
theorem F54.ok : trF Try.prog 54 = some F54 := by kernel_rfl

/- cmp.Compare[uint32] -/
def F55 : MF := ⟨20, [(4, none)],
  .seq (.reg <| .rd (some 4) none none (.mv (.const (.int .i64 0))) <|
    .done) <|
  .seq (.reg <| .rd (some 7) none none (.mv (.tmp 0)) <|
    .ef (some 8) none 0 (.cl 70 [(.tmp 7)]) <|
    .rd (some 5) none none (.mv (.tmp 8)) <|
    .done) <|
  .seq (.reg <| .rd (some 9) none none (.mv (.tmp 1)) <|
    .ef (some 10) none 0 (.cl 70 [(.tmp 9)]) <|
    .rd (some 6) none none (.mv (.tmp 10)) <|
    .done) <|
  .seq (.seq (.reg <| .rd (some 11) none none (.mv (.tmp 5)) <|
    .done) <|
  .cond (.tmp 11) (.seq (.seq (.reg <| .rd (some 12) none none (.mv (.tmp 6)) <|
    .done) <|
  .cond (.tmp 12) (.seq (.reg <| .rd (some 4) none none (.mv (.const (.int .i64 0))) <|
    .done) <|
  .ret) <|
  .skip) <|
  .seq (.reg <| .rd (some 4) none none (.mv (.const (.int .i64 (-1)))) <|
    .done) <|
  .ret) <|
  .skip) <|
  .seq (.seq (.reg <| .rd (some 13) none none (.mv (.tmp 6)) <|
    .done) <|
  .cond (.tmp 13) (.seq (.reg <| .rd (some 4) none none (.mv (.const (.int .i64 1))) <|
    .done) <|
  .ret) <|
  .skip) <|
  .seq (.seq (.reg <| .rd (some 14) none none (.mv (.tmp 0)) <|
    .rd (some 15) none none (.mv (.tmp 1)) <|
    .rd (some 16) none none (.bin .lss (.tmp 14) (.tmp 15)) <|
    .done) <|
  .cond (.tmp 16) (.seq (.reg <| .rd (some 4) none none (.mv (.const (.int .i64 (-1)))) <|
    .done) <|
  .ret) <|
  .skip) <|
  .seq (.seq (.reg <| .rd (some 17) none none (.mv (.tmp 0)) <|
    .rd (some 18) none none (.mv (.tmp 1)) <|
    .rd (some 19) none none (.bin .gtr (.tmp 17) (.tmp 18)) <|
    .done) <|
  .cond (.tmp 19) (.seq (.reg <| .rd (some 4) none none (.mv (.const (.int .i64 1))) <|
    .done) <|
  .ret) <|
  .skip) <|
  .seq (.reg <| .rd (some 4) none none (.mv (.const (.int .i64 0))) <|
    .done) <|
  .ret⟩
def F55.k : List Nat := [0, 1, 4, 5, 6, 11, 12, 13, 16, 19]
theorem F55.ok : trF Try.prog 55 = some F55 := by kernel_rfl

/- slices.Index[[]dovecote.api.Txn,dovecote.api.Txn] -/
abbrev F56b0 : MC :=
  .seq (.reg <| .rd (some 9) none none (.bin .lss (.tmp 8) (.tmp 7)) <|
    .done) <|
  .seq (.cond (.tmp 9) (.skip) <|
  .exit 0) <|
  .seq (.block 1 <|
  .seq (.reg <| .rd (some 10) none none (.mv (.tmp 8)) <|
    .rd (some 5) none none (.mv (.tmp 10)) <|
    .done) <|
  .seq (.reg <| .rd (some 11) none (some 0) (.ld (some 2) (.tmp 3)) <|
    .rd (some 12) none none (.mv (.tmp 0)) <|
    .rd (some 13) none none (.mv (.tmp 5)) <|
    .rd (some 14) none none (.ia 2 (.tmp 12) (.tmp 13)) <|
    .rd (some 15) none (some 0) (.ld (some 2) (.tmp 14)) <|
    .rd (some 16) none none (.eqs false [(.int .u32), (.int .u32)] (.tmp 11) (.tmp 15)) <|
    .done) <|
  .cond (.tmp 16) (.seq (.reg <| .rd (some 17) none none (.mv (.tmp 5)) <|
    .rd (some 4) none none (.mv (.tmp 17)) <|
    .done) <|
  .ret) <|
  .skip) <|
  .reg <| .rd (some 18) none none (.bin .add (.tmp 8) (.const (.int .i64 1))) <|
    .rd (some 8) none none (.mv (.tmp 18)) <|
    .done
def F56 : MF := ⟨19, [(4, none)],
  .seq (.reg <| .ef (some 3) none 0 (.bx 25 2 (.tmp 1)) <|
    .rd (some 4) none none (.mv (.const (.int .i64 0))) <|
    .done) <|
  .seq (.seq (.reg <| .rd (some 6) none none (.mv (.tmp 0)) <|
    .rd (some 7) none none (.len (.tmp 6)) <|
    .rd (some 8) none none (.mv (.const (.int .i64 0))) <|
    .done) <|
  .block 0 <|
  .loop F56b0) <|
  .seq (.reg <| .rd (some 4) none none (.mv (.const (.int .i64 (-1)))) <|
    .done) <|
  .ret⟩
def F56.k : List Nat := [0, 1, 3, 4, 5, 7, 8, 9, 16]
theorem F56.ok : trF Try.prog 56 = some F56 := by kernel_rfl

/- cmp.isNaN[uint64] -/
def F69 : MF := ⟨6, [(2, none)],
  .seq (.reg <| .rd (some 2) none none (.mv (.const (.bool false))) <|
    .done) <|
  .seq (.reg <| .rd (some 3) none none (.mv (.tmp 0)) <|
    .rd (some 4) none none (.mv (.tmp 0)) <|
    .rd (some 5) none none (.bin .neq (.tmp 3) (.tmp 4)) <|
    .rd (some 2) none none (.mv (.tmp 5)) <|
    .done) <|
  .ret⟩
def F69.k : List Nat := [0, 2]
theorem F69.ok : trF Try.prog 69 = some F69 := by kernel_rfl

/- cmp.isNaN[uint32] -/
def F70 : MF := ⟨6, [(2, none)],
  .seq (.reg <| .rd (some 2) none none (.mv (.const (.bool false))) <|
    .done) <|
  .seq (.reg <| .rd (some 3) none none (.mv (.tmp 0)) <|
    .rd (some 4) none none (.mv (.tmp 0)) <|
    .rd (some 5) none none (.bin .neq (.tmp 3) (.tmp 4)) <|
    .rd (some 2) none none (.mv (.tmp 5)) <|
    .done) <|
  .ret⟩
def F70.k : List Nat := [0, 2]
theorem F70.ok : trF Try.prog 70 = some F70 := by kernel_rfl

end Go.Proofs.Ythcbefkgfhokoaa
