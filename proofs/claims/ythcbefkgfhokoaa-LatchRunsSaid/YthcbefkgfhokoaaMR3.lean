/- Parts A1 B7 B8 B9 BA BB BC BD BE of the proof. -/
import Derived.Test.YthcbefkgfhokoaaProg
import Derived.Test.YthcbefkgfhokoaaMR1
import Derived.KernelRfl
import Derived.Test.YthcbefkgfhokoaaMR2
/- The plain form of functions of the program (printed by a program of this session). -/
set_option maxRecDepth 100000
namespace Go.Proofs.Ythcbefkgfhokoaa
open Go Go.Dv

/- dovecote.latch.New -/
def F9 : MF := ⟨5, [(0, none)],
  .seq (.reg <| .rd (some 0) none none (.mv (.const (.pointer none))) <|
    .done) <|
  .seq (.reg <| .ef (some 1) none 0 (.raw ⟨none, (.makeMap 59 none), 59, "", #[], none⟩) <|
    .ef (some 2) none 0 (.cl 26 []) <|
    .rd (some 3) none none (.bld [(.map none), (.pointer none)] [(0, 1, (.tmp 1)), (1, 1, (.tmp 2))]) <|
    .ef (some 4) none 0 (.bx 65 2 (.tmp 3)) <|
    .rd (some 0) none none (.mv (.tmp 4)) <|
    .done) <|
  .ret⟩
def F9.k : List Nat := [0]
theorem F9.ok : trF Try.prog 9 = some F9 := by kernel_rfl

/- (*dovecote.latch.Table).Lay -/
abbrev F10b0 : MC :=
  .seq (.reg <| .rd (some 73) none none (.bin .lss (.tmp 72) (.tmp 71)) <|
    .done) <|
  .seq (.cond (.tmp 73) (.skip) <|
  .exit 0) <|
  .seq (.block 1 <|
  .seq (.reg <| .rd (some 74) none none (.ia 3 (.tmp 70) (.tmp 72)) <|
    .rd (some 75) none none (.ld (some 3) (.tmp 74)) <|
    .ef (some 16) none 0 (.al 39 [(.string ⟨#[]⟩), (.string ⟨#[]⟩), (.bool false)]) <|
    .ef none none 0 (.st 3 (.tmp 16) (.tmp 75)) <|
    .done) <|
  .reg <| .rd (some 76) none (some 512) (.ld none (.tmp 6)) <|
    .rd (some 77) none none (.nz (.tmp 76)) <|
    .rd (some 78) none none (.fa 1 (.tmp 77)) <|
    .rd (some 79) none (some 512) (.ld none (.tmp 78)) <|
    .rd (some 80) none none (.fa 0 (.tmp 16)) <|
    .rd (some 81) none (some 512) (.ld none (.tmp 80)) <|
    .rd (some 82) none (some 512) (.ld (some 2) (.tmp 7)) <|
    .rd (some 83) none (some 512) (.ld (some 3) (.tmp 16)) <|
    .rd (some 84) none none (.bld [(.int .u32 0), (.int .u32 0), (.string ⟨#[]⟩), (.string ⟨#[]⟩), (.bool false)] [(0, 2, (.tmp 82)), (2, 3, (.tmp 83))]) <|
    .ef (some 85) none 9 (.cl 35 [(.tmp 79), (.tmp 81), (.tmp 84)]) <|
    .done) <|
  .reg <| .rd (some 86) none none (.bin .add (.tmp 72) (.const (.int .i64 1))) <|
    .rd (some 72) none none (.mv (.tmp 86)) <|
    .done
def F10 : MF := ⟨87, [(12, none)],
  .seq (.reg <| .ef (some 6) none 0 (.bx 34 1 (.tmp 0)) <|
    .ef (some 7) none 0 (.bx 25 2 (.tmp 1)) <|
    .ef (some 8) none 0 (.bx 28 2 (.tmp 2)) <|
    .ef (some 9) none 0 (.bx 28 2 (.tmp 3)) <|
    .rd (some 12) none none (.mv (.const (.int .i64 0))) <|
    .done) <|
  .seq (.seq (.reg <| .rd (some 17) none none (.ld none (.tmp 6)) <|
    .rd (some 18) none none (.eqn 4 false (.tmp 17) (.const (.pointer none))) <|
    .rd (some 19) none none (.mv (.tmp 18)) <|
    .rd (some 20) (some (19, false)) none (.mv (.tmp 5)) <|
    .ef (some 21) (some (19, false)) 0 (.cl 15 [(.tmp 20)]) <|
    .rd (some 22) (some (19, false)) none (.un .not (.tmp 21)) <|
    .rd (some 23) none none (.pick (.tmp 19) (.const (.bool true)) (.tmp 22)) <|
    .rd (some 24) none none (.mv (.tmp 23)) <|
    .rd (some 25) (some (24, false)) none (.ld (some 2) (.tmp 8)) <|
    .ef (some 26) (some (24, false)) 0 (.cl 27 [(.tmp 25)]) <|
    .rd (some 27) (some (24, false)) none (.un .not (.tmp 26)) <|
    .rd (some 28) none none (.pick (.tmp 24) (.const (.bool true)) (.tmp 27)) <|
    .rd (some 29) none none (.mv (.tmp 28)) <|
    .rd (some 30) (some (29, false)) none (.ld (some 2) (.tmp 9)) <|
    .ef (some 31) (some (29, false)) 0 (.cl 27 [(.tmp 30)]) <|
    .rd (some 32) (some (29, false)) none (.un .not (.tmp 31)) <|
    .rd (some 33) none none (.pick (.tmp 29) (.const (.bool true)) (.tmp 32)) <|
    .rd (some 34) none none (.mv (.tmp 33)) <|
    .rd (some 35) (some (34, false)) none (.mv (.tmp 4)) <|
    .ef (some 36) (some (34, false)) 0 (.cl 28 [(.tmp 35)]) <|
    .rd (some 37) (some (34, false)) none (.un .not (.tmp 36)) <|
    .rd (some 38) none none (.pick (.tmp 34) (.const (.bool true)) (.tmp 37)) <|
    .done) <|
  .cond (.tmp 38) (.seq (.reg <| .rd (some 12) none none (.mv (.const (.int .i64 1))) <|
    .done) <|
  .ret) <|
  .skip) <|
  .seq (.reg <| .rd (some 39) none none (.mf (.func 29) [] [(.tmp 6)]) <|
    .rd (some 13) none none (.mv (.tmp 39)) <|
    .done) <|
  .seq (.seq (.reg <| .rd (some 40) none (some 1024) (.ld none (.tmp 6)) <|
    .rd (some 41) none none (.nz (.tmp 40)) <|
    .rd (some 42) none none (.fa 0 (.tmp 41)) <|
    .rd (some 43) none (some 1024) (.ld none (.tmp 42)) <|
    .rd (some 44) none (some 1024) (.ld (some 2) (.tmp 7)) <|
    .rd (some 45) none (some 1024) (.raw ⟨none, (.lookup 59 (.tmp 43) (.tmp 44) false), 71, "", #[], none⟩) <|
    .rd (some 46) none none (.eqn 4 true (.tmp 45) (.const (.pointer none))) <|
    .rd (some 47) none none (.mv (.tmp 46)) <|
    .rd (some 48) (some (47, false)) none (.mv (.tmp 5)) <|
    .rd (some 49) (some (47, false)) none (.mv (.tmp 13)) <|
    .ef (some 50) (some (47, false)) 10 (.cl 31 [(.tmp 48), (.tmp 49)]) <|
    .rd (some 51) none none (.pick (.tmp 47) (.const (.bool true)) (.tmp 50)) <|
    .done) <|
  .cond (.tmp 51) (.seq (.reg <| .rd (some 12) none none (.mv (.const (.int .i64 40))) <|
    .done) <|
  .ret) <|
  .skip) <|
  .seq (.reg <| .rd (some 52) none (some 64) (.ld (some 2) (.tmp 8)) <|
    .rd (some 53) none (some 64) (.ld (some 2) (.tmp 9)) <|
    .rd (some 54) none none (.mv (.tmp 4)) <|
    .rd (some 55) none none (.mv (.tmp 5)) <|
    .ef (some 56) none 4 (.cl 32 [(.tmp 55)]) <|
    .rd (some 57) none none (.bld [(.int .u64 0), (.int .u32 0), (.int .u64 0), (.int .u32 0), (.string ⟨#[]⟩), (.slice none 0 0)] [(0, 2, (.tmp 52)), (2, 2, (.tmp 53)), (4, 1, (.tmp 54)), (5, 1, (.tmp 56))]) <|
    .ef (some 58) none 6 (.bx 75 6 (.tmp 57)) <|
    .rd (some 14) none none (.mv (.tmp 58)) <|
    .done) <|
  .seq (.reg <| .rd (some 59) none none (.mv (.tmp 14)) <|
    .rd (some 60) none none (.nz (.tmp 59)) <|
    .rd (some 61) none none (.fa 5 (.tmp 60)) <|
    .rd (some 62) none none (.ld none (.tmp 61)) <|
    .ef (some 63) none 0 (.cl 33 [(.tmp 62), (.func 34)]) <|
    .done) <|
  .seq (.reg <| .rd (some 64) none (some 64) (.ld none (.tmp 6)) <|
    .rd (some 65) none none (.nz (.tmp 64)) <|
    .rd (some 66) none none (.fa 0 (.tmp 65)) <|
    .rd (some 67) none (some 64) (.ld none (.tmp 66)) <|
    .rd (some 68) none (some 64) (.ld (some 2) (.tmp 7)) <|
    .rd (some 69) none none (.mv (.tmp 14)) <|
    .ef none none 6 (.raw ⟨none, (.mapUpdate 59 (.tmp 67) (.tmp 68) (.tmp 69)), 0, "", #[], none⟩) <|
    .done) <|
  .seq (.seq (.reg <| .rd (some 70) none none (.mv (.tmp 5)) <|
    .rd (some 71) none none (.len (.tmp 70)) <|
    .rd (some 72) none none (.mv (.const (.int .i64 0))) <|
    .done) <|
  .block 0 <|
  .loop F10b0) <|
  .seq (.reg <| .rd (some 12) none none (.mv (.const (.int .i64 0))) <|
    .done) <|
  .ret⟩
def F10.k : List Nat := [0, 1, 2, 3, 4, 5, 6, 7, 8, 9, 12, 13, 14, 16, 38, 51, 70, 71, 72, 73]
theorem F10.ok : trF Try.prog 10 = some F10 := by kernel_rfl

/- (*dovecote.latch.Table).All -/
abbrev F11b0 : MC :=
  .seq (.reg <| .rd (some 17) none none (.bin .lss (.tmp 16) (.tmp 15)) <|
    .done) <|
  .seq (.cond (.tmp 17) (.skip) <|
  .exit 0) <|
  .seq (.block 1 <|
  .seq (.reg <| .rd (some 18) none none (.ia 1 (.tmp 14) (.tmp 16)) <|
    .rd (some 19) none none (.ld none (.tmp 18)) <|
    .rd (some 5) none none (.mv (.tmp 19)) <|
    .done) <|
  .seq (.reg <| .rd (some 21) none none (.mv (.tmp 0)) <|
    .rd (some 22) none none (.mv (.tmp 5)) <|
    .ef (some 23) none 0 (.cl 17 [(.tmp 21), (.tmp 22)]) <|
    .rd (some 20) none none (.mv (.tmp 23)) <|
    .rd (some 24) none none (.ext (.tmp 20) 0) <|
    .rd (some 25) none none (.ext (.tmp 20) 1) <|
    .ef (some 6) none 0 (.al 41 [(.int .u32 0), (.int .u32 0), (.int .u64 0), (.int .u32 0), (.int .u64 0), (.int .u32 0), (.string ⟨#[]⟩), (.string ⟨#[]⟩), (.string ⟨#[]⟩), (.bool false)]) <|
    .ef none none 0 (.st 10 (.tmp 6) (.tmp 24)) <|
    .rd (some 7) none none (.mv (.tmp 25)) <|
    .done) <|
  .reg <| .rd (some 26) none none (.mv (.tmp 3)) <|
    .rd (some 27) none none (.ld (some 10) (.tmp 6)) <|
    .ef (some 28) none 0 (.raw ⟨none, (.buildSlice 42 1 #[(0, (.tmp 27))]), 42, "", #[], none⟩) <|
    .ef (some 29) none 0 (.raw ⟨none, (.call ⟨(.builtin .append), #[(.tmp 26), (.tmp 28)], #[42, 42]⟩), 42, "", #[], none⟩) <|
    .rd (some 3) none none (.mv (.tmp 29)) <|
    .done) <|
  .reg <| .rd (some 30) none none (.bin .add (.tmp 16) (.const (.int .i64 1))) <|
    .rd (some 16) none none (.mv (.tmp 30)) <|
    .done
def F11 : MF := ⟨32, [(2, none)],
  .seq (.reg <| .rd (some 2) none none (.mv (.const (.slice none 0 0))) <|
    .done) <|
  .seq (.seq (.reg <| .rd (some 8) none none (.mv (.tmp 0)) <|
    .rd (some 9) none none (.eqn 4 false (.tmp 8) (.const (.pointer none))) <|
    .done) <|
  .cond (.tmp 9) (.seq (.reg <| .rd (some 2) none none (.mv (.const (.slice none 0 0))) <|
    .done) <|
  .ret) <|
  .skip) <|
  .seq (.reg <| .rd (some 3) none none (.mv (.const (.slice none 0 0))) <|
    .done) <|
  .seq (.seq (.reg <| .rd (some 10) none none (.mv (.tmp 0)) <|
    .rd (some 11) none none (.nz (.tmp 10)) <|
    .rd (some 12) none none (.fa 1 (.tmp 11)) <|
    .rd (some 13) none none (.ld none (.tmp 12)) <|
    .ef (some 14) none 0 (.cl 36 [(.tmp 13), (.const (.string ⟨#[]⟩)), (.const (.string ⟨#[]⟩)), (.const (.int .i64 9223372036854775807))]) <|
    .rd (some 15) none none (.len (.tmp 14)) <|
    .rd (some 16) none none (.mv (.const (.int .i64 0))) <|
    .done) <|
  .block 0 <|
  .loop F11b0) <|
  .seq (.reg <| .rd (some 31) none none (.mv (.tmp 3)) <|
    .rd (some 2) none none (.mv (.tmp 31)) <|
    .done) <|
  .ret⟩
def F11.k : List Nat := [0, 2, 3, 5, 6, 9, 14, 15, 16, 17]
theorem F11.ok : trF Try.prog 11 = some F11 := by kernel_rfl

/- (*dovecote.latch.Table).First -/
abbrev F12b0 : MC :=
  .seq (.reg <| .rd (some 28) none none (.bin .lss (.tmp 27) (.tmp 26)) <|
    .done) <|
  .seq (.cond (.tmp 28) (.skip) <|
  .exit 0) <|
  .seq (.block 1 <|
  .seq (.reg <| .rd (some 29) none none (.ia 1 (.tmp 25) (.tmp 27)) <|
    .rd (some 30) none none (.ld none (.tmp 29)) <|
    .rd (some 13) none none (.mv (.tmp 30)) <|
    .done) <|
  .seq (.reg <| .rd (some 32) none none (.mv (.tmp 0)) <|
    .rd (some 33) none none (.mv (.tmp 13)) <|
    .ef (some 34) none 0 (.cl 17 [(.tmp 32), (.tmp 33)]) <|
    .rd (some 31) none none (.mv (.tmp 34)) <|
    .rd (some 35) none none (.ext (.tmp 31) 0) <|
    .rd (some 36) none none (.ext (.tmp 31) 1) <|
    .ef (some 14) none 0 (.al 41 [(.int .u32 0), (.int .u32 0), (.int .u64 0), (.int .u32 0), (.int .u64 0), (.int .u32 0), (.string ⟨#[]⟩), (.string ⟨#[]⟩), (.string ⟨#[]⟩), (.bool false)]) <|
    .ef none none 0 (.st 10 (.tmp 14) (.tmp 35)) <|
    .rd (some 15) none none (.mv (.tmp 36)) <|
    .done) <|
  .seq (.reg <| .rd (some 37) none none (.ld (some 2) (.tmp 8)) <|
    .rd (some 38) none none (.fa 4 (.tmp 14)) <|
    .rd (some 39) none none (.ld (some 2) (.tmp 38)) <|
    .ef (some 40) none 0 (.cl 37 [(.tmp 37), (.tmp 39)]) <|
    .rd (some 41) none none (.un .not (.tmp 40)) <|
    .rd (some 42) none none (.mv (.tmp 41)) <|
    .rd (some 43) (some (42, true)) none (.mv (.tmp 4)) <|
    .rd (some 44) (some (42, true)) none (.fa 0 (.tmp 14)) <|
    .rd (some 45) (some (42, true)) none (.ld (some 2) (.tmp 44)) <|
    .ef (some 46) (some (42, true)) 0 (.cl 38 [(.tmp 43), (.tmp 45)]) <|
    .rd (some 47) (some (42, true)) none (.un .not (.tmp 46)) <|
    .rd (some 48) none none (.pick (.tmp 42) (.tmp 47) (.const (.bool false))) <|
    .done) <|
  .cond (.tmp 48) (.seq (.reg <| .rd (some 49) none none (.ld (some 10) (.tmp 14)) <|
    .ef none none 0 (.st 10 (.tmp 10) (.tmp 49)) <|
    .rd (some 11) none none (.mv (.const (.bool true))) <|
    .done) <|
  .ret) <|
  .skip) <|
  .reg <| .rd (some 50) none none (.bin .add (.tmp 27) (.const (.int .i64 1))) <|
    .rd (some 27) none none (.mv (.tmp 50)) <|
    .done
def F12 : MF := ⟨52, [(10, (some (some 10))), (11, none)],
  .seq (.reg <| .ef (some 8) none 0 (.bx 28 2 (.tmp 3)) <|
    .ef (some 10) none 0 (.al 41 [(.int .u32 0), (.int .u32 0), (.int .u64 0), (.int .u32 0), (.int .u64 0), (.int .u32 0), (.string ⟨#[]⟩), (.string ⟨#[]⟩), (.string ⟨#[]⟩), (.bool false)]) <|
    .rd (some 11) none none (.mv (.const (.bool false))) <|
    .done) <|
  .seq (.seq (.reg <| .rd (some 16) none none (.mv (.tmp 0)) <|
    .rd (some 17) none none (.eqn 4 false (.tmp 16) (.const (.pointer none))) <|
    .done) <|
  .cond (.tmp 17) (.seq (.reg <| .rd (some 18) none none (.bld [(.int .u32 0), (.int .u32 0), (.int .u64 0), (.int .u32 0), (.int .u64 0), (.int .u32 0), (.string ⟨#[]⟩), (.string ⟨#[]⟩), (.string ⟨#[]⟩), (.bool false)] []) <|
    .ef none none 0 (.st 10 (.tmp 10) (.tmp 18)) <|
    .rd (some 11) none none (.mv (.const (.bool false))) <|
    .done) <|
  .ret) <|
  .skip) <|
  .seq (.seq (.reg <| .rd (some 19) none none (.mv (.tmp 0)) <|
    .rd (some 20) none none (.nz (.tmp 19)) <|
    .rd (some 21) none none (.fa 1 (.tmp 20)) <|
    .rd (some 22) none none (.ld none (.tmp 21)) <|
    .rd (some 23) none none (.mv (.tmp 1)) <|
    .rd (some 24) none none (.mv (.tmp 2)) <|
    .ef (some 25) none 0 (.cl 36 [(.tmp 22), (.tmp 23), (.tmp 24), (.const (.int .i64 9223372036854775807))]) <|
    .rd (some 26) none none (.len (.tmp 25)) <|
    .rd (some 27) none none (.mv (.const (.int .i64 0))) <|
    .done) <|
  .block 0 <|
  .loop F12b0) <|
  .seq (.reg <| .rd (some 51) none none (.bld [(.int .u32 0), (.int .u32 0), (.int .u64 0), (.int .u32 0), (.int .u64 0), (.int .u32 0), (.string ⟨#[]⟩), (.string ⟨#[]⟩), (.string ⟨#[]⟩), (.bool false)] []) <|
    .ef none none 0 (.st 10 (.tmp 10) (.tmp 51)) <|
    .rd (some 11) none none (.mv (.const (.bool false))) <|
    .done) <|
  .ret⟩
def F12.k : List Nat := [0, 1, 2, 3, 4, 8, 10, 11, 13, 14, 17, 25, 26, 27, 28, 48]
theorem F12.ok : trF Try.prog 12 = some F12 := by kernel_rfl

/- (*dovecote.latch.Table).By -/
abbrev F13b0 : MC :=
  .seq (.reg <| .rd (some 30) none none (.bin .lss (.tmp 29) (.tmp 28)) <|
    .done) <|
  .seq (.cond (.tmp 30) (.skip) <|
  .exit 0) <|
  .seq (.block 1 <|
  .seq (.reg <| .rd (some 31) none none (.ia 3 (.tmp 27) (.tmp 29)) <|
    .rd (some 32) none none (.ld (some 3) (.tmp 31)) <|
    .ef (some 7) none 0 (.al 39 [(.string ⟨#[]⟩), (.string ⟨#[]⟩), (.bool false)]) <|
    .ef none none 0 (.st 3 (.tmp 7) (.tmp 32)) <|
    .done) <|
  .reg <| .rd (some 33) none none (.mv (.tmp 5)) <|
    .rd (some 34) none none (.mv (.tmp 0)) <|
    .rd (some 35) none none (.nz (.tmp 34)) <|
    .rd (some 36) none none (.fa 0 (.tmp 35)) <|
    .rd (some 37) none (some 3584) (.ld none (.tmp 36)) <|
    .rd (some 38) none (some 3584) (.ld (some 2) (.tmp 3)) <|
    .rd (some 39) none (some 3584) (.raw ⟨none, (.lookup 59 (.tmp 37) (.tmp 38) false), 71, "", #[], none⟩) <|
    .rd (some 40) none (some 3584) (.ld (some 2) (.tmp 3)) <|
    .rd (some 41) none (some 3584) (.ld (some 3) (.tmp 7)) <|
    .ef (some 42) none 9 (.cl 39 [(.tmp 39), (.tmp 40), (.tmp 41)]) <|
    .ef (some 43) none 10 (.raw ⟨none, (.buildSlice 42 1 #[(0, (.tmp 42))]), 42, "", #[], none⟩) <|
    .ef (some 44) none 11 (.raw ⟨none, (.call ⟨(.builtin .append), #[(.tmp 33), (.tmp 43)], #[42, 42]⟩), 42, "", #[], none⟩) <|
    .rd (some 5) none none (.mv (.tmp 44)) <|
    .done) <|
  .reg <| .rd (some 45) none none (.bin .add (.tmp 29) (.const (.int .i64 1))) <|
    .rd (some 29) none none (.mv (.tmp 45)) <|
    .done
def F13 : MF := ⟨47, [(4, none)],
  .seq (.reg <| .ef (some 3) none 0 (.bx 25 2 (.tmp 1)) <|
    .rd (some 4) none none (.mv (.const (.slice none 0 0))) <|
    .done) <|
  .seq (.seq (.reg <| .rd (some 8) none none (.mv (.tmp 0)) <|
    .rd (some 9) none none (.eqn 4 false (.tmp 8) (.const (.pointer none))) <|
    .rd (some 10) none none (.mv (.tmp 9)) <|
    .rd (some 11) (some (10, false)) none (.mv (.tmp 0)) <|
    .rd (some 12) (some (10, false)) none (.nz (.tmp 11)) <|
    .rd (some 13) (some (10, false)) none (.fa 0 (.tmp 12)) <|
    .rd (some 14) (some (10, false)) (some 0) (.ld none (.tmp 13)) <|
    .rd (some 15) (some (10, false)) (some 0) (.ld (some 2) (.tmp 3)) <|
    .rd (some 16) (some (10, false)) (some 0) (.raw ⟨none, (.lookup 59 (.tmp 14) (.tmp 15) false), 71, "", #[], none⟩) <|
    .rd (some 17) (some (10, false)) none (.eqn 4 false (.tmp 16) (.const (.pointer none))) <|
    .rd (some 18) none none (.pick (.tmp 10) (.const (.bool true)) (.tmp 17)) <|
    .done) <|
  .cond (.tmp 18) (.seq (.reg <| .rd (some 4) none none (.mv (.const (.slice none 0 0))) <|
    .done) <|
  .ret) <|
  .skip) <|
  .seq (.reg <| .rd (some 5) none none (.mv (.const (.slice none 0 0))) <|
    .done) <|
  .seq (.seq (.reg <| .rd (some 19) none none (.mv (.tmp 0)) <|
    .rd (some 20) none none (.nz (.tmp 19)) <|
    .rd (some 21) none none (.fa 0 (.tmp 20)) <|
    .rd (some 22) none (some 0) (.ld none (.tmp 21)) <|
    .rd (some 23) none (some 0) (.ld (some 2) (.tmp 3)) <|
    .rd (some 24) none (some 0) (.raw ⟨none, (.lookup 59 (.tmp 22) (.tmp 23) false), 71, "", #[], none⟩) <|
    .rd (some 25) none none (.nz (.tmp 24)) <|
    .rd (some 26) none none (.fa 5 (.tmp 25)) <|
    .rd (some 27) none (some 0) (.ld none (.tmp 26)) <|
    .rd (some 28) none none (.len (.tmp 27)) <|
    .rd (some 29) none none (.mv (.const (.int .i64 0))) <|
    .done) <|
  .block 0 <|
  .loop F13b0) <|
  .seq (.reg <| .rd (some 46) none none (.mv (.tmp 5)) <|
    .rd (some 4) none none (.mv (.tmp 46)) <|
    .done) <|
  .ret⟩
def F13.k : List Nat := [0, 1, 3, 4, 5, 7, 18, 27, 28, 29, 30]
theorem F13.ok : trF Try.prog 13 = some F13 := by kernel_rfl

/- (*dovecote.latch.Table).Cut -/
abbrev F14b0 : MC :=
  .seq (.reg <| .rd (some 14) none none (.bin .lss (.tmp 13) (.tmp 12)) <|
    .done) <|
  .seq (.cond (.tmp 14) (.skip) <|
  .exit 0) <|
  .seq (.block 1 <|
  .seq (.reg <| .rd (some 15) none none (.ia 10 (.tmp 11) (.tmp 13)) <|
    .rd (some 16) none none (.ld (some 10) (.tmp 15)) <|
    .ef (some 7) none 0 (.al 41 [(.int .u32 0), (.int .u32 0), (.int .u64 0), (.int .u32 0), (.int .u64 0), (.int .u32 0), (.string ⟨#[]⟩), (.string ⟨#[]⟩), (.string ⟨#[]⟩), (.bool false)]) <|
    .ef none none 0 (.st 10 (.tmp 7) (.tmp 16)) <|
    .done) <|
  .reg <| .rd (some 17) none none (.mv (.tmp 0)) <|
    .rd (some 18) none none (.nz (.tmp 17)) <|
    .rd (some 19) none none (.fa 1 (.tmp 18)) <|
    .rd (some 20) none (some 128) (.ld none (.tmp 19)) <|
    .rd (some 21) none none (.fa 7 (.tmp 7)) <|
    .rd (some 22) none none (.fa 0 (.tmp 21)) <|
    .rd (some 23) none (some 128) (.ld none (.tmp 22)) <|
    .ef (some 24) none 7 (.cl 40 [(.tmp 20), (.tmp 23)]) <|
    .done) <|
  .reg <| .rd (some 25) none none (.bin .add (.tmp 13) (.const (.int .i64 1))) <|
    .rd (some 13) none none (.mv (.tmp 25)) <|
    .done
def F14 : MF := ⟨34, [(4, none)],
  .seq (.reg <| .ef (some 3) none 0 (.bx 25 2 (.tmp 1)) <|
    .rd (some 4) none none (.mv (.const (.slice none 0 0))) <|
    .done) <|
  .seq (.reg <| .rd (some 8) none none (.mv (.tmp 0)) <|
    .rd (some 9) none none (.ld (some 2) (.tmp 3)) <|
    .ef (some 10) none 0 (.cl 13 [(.tmp 8), (.tmp 9)]) <|
    .rd (some 5) none none (.mv (.tmp 10)) <|
    .done) <|
  .seq (.seq (.reg <| .rd (some 11) none none (.mv (.tmp 5)) <|
    .rd (some 12) none none (.len (.tmp 11)) <|
    .rd (some 13) none none (.mv (.const (.int .i64 0))) <|
    .done) <|
  .block 0 <|
  .loop F14b0) <|
  .seq (.seq (.reg <| .rd (some 26) none none (.mv (.tmp 0)) <|
    .rd (some 27) none none (.eqn 4 true (.tmp 26) (.const (.pointer none))) <|
    .done) <|
  .cond (.tmp 27) (.reg <| .rd (some 28) none none (.mv (.tmp 0)) <|
    .rd (some 29) none none (.nz (.tmp 28)) <|
    .rd (some 30) none none (.fa 0 (.tmp 29)) <|
    .rd (some 31) none (some 32) (.ld none (.tmp 30)) <|
    .rd (some 32) none (some 32) (.ld (some 2) (.tmp 3)) <|
    .ef none none 5 (.raw ⟨none, (.call ⟨(.builtin .delete), #[(.tmp 31), (.tmp 32)], #[59, 25]⟩), 0, "", #[], none⟩) <|
    .done) <|
  .skip) <|
  .seq (.reg <| .rd (some 33) none none (.mv (.tmp 5)) <|
    .rd (some 4) none none (.mv (.tmp 33)) <|
    .done) <|
  .ret⟩
def F14.k : List Nat := [0, 1, 3, 4, 5, 7, 11, 12, 13, 14, 27]
theorem F14.ok : trF Try.prog 14 = some F14 := by kernel_rfl

/- dovecote.latch.Right -/
abbrev F15b0 : MC :=
  .seq (.reg <| .rd (some 10) none none (.bin .lss (.tmp 9) (.tmp 8)) <|
    .done) <|
  .seq (.cond (.tmp 10) (.skip) <|
  .exit 0) <|
  .seq (.block 1 <|
  .seq (.reg <| .rd (some 11) none none (.ia 3 (.tmp 7) (.tmp 9)) <|
    .rd (some 12) none none (.ld (some 3) (.tmp 11)) <|
    .ef (some 5) none 0 (.al 39 [(.string ⟨#[]⟩), (.string ⟨#[]⟩), (.bool false)]) <|
    .ef none none 0 (.st 3 (.tmp 5) (.tmp 12)) <|
    .done) <|
  .seq (.seq (.reg <| .rd (some 13) none none (.mv (.tmp 0)) <|
    .rd (some 14) none none (.len (.tmp 13)) <|
    .rd (some 15) none none (.bin .gtr (.tmp 14) (.const (.int .i64 16))) <|
    .rd (some 16) none none (.mv (.tmp 15)) <|
    .rd (some 17) (some (16, false)) none (.fa 0 (.tmp 5)) <|
    .rd (some 18) (some (16, false)) none (.ld none (.tmp 17)) <|
    .ef (some 19) (some (16, false)) 0 (.cl 28 [(.tmp 18)]) <|
    .rd (some 20) (some (16, false)) none (.un .not (.tmp 19)) <|
    .rd (some 21) none none (.pick (.tmp 16) (.const (.bool true)) (.tmp 20)) <|
    .rd (some 22) none none (.mv (.tmp 21)) <|
    .rd (some 23) (some (22, false)) none (.fa 1 (.tmp 5)) <|
    .rd (some 24) (some (22, false)) none (.ld none (.tmp 23)) <|
    .rd (some 25) (some (22, false)) none (.slen (.tmp 24)) <|
    .rd (some 26) (some (22, false)) none (.bin .gtr (.tmp 25) (.const (.int .i64 256))) <|
    .rd (some 27) none none (.pick (.tmp 22) (.const (.bool true)) (.tmp 26)) <|
    .rd (some 28) none none (.mv (.tmp 27)) <|
    .rd (some 29) (some (28, false)) none (.fa 2 (.tmp 5)) <|
    .rd (some 30) (some (28, false)) none (.ld none (.tmp 29)) <|
    .rd (some 31) (some (28, false)) none (.mv (.tmp 30)) <|
    .rd (some 32) (some (31, true)) none (.fa 1 (.tmp 5)) <|
    .rd (some 33) (some (31, true)) none (.ld none (.tmp 32)) <|
    .rd (some 34) (some (31, true)) none (.bin .neq (.tmp 33) (.const (.string ⟨#[]⟩))) <|
    .rd (some 35) (some (28, false)) none (.pick (.tmp 31) (.tmp 34) (.const (.bool false))) <|
    .rd (some 36) none none (.pick (.tmp 28) (.const (.bool true)) (.tmp 35)) <|
    .rd (some 37) none none (.mv (.tmp 36)) <|
    .rd (some 38) (some (37, false)) none (.mv (.tmp 3)) <|
    .rd (some 39) (some (37, false)) none (.fa 0 (.tmp 5)) <|
    .rd (some 40) (some (37, false)) none (.ld none (.tmp 39)) <|
    .rd (some 41) (some (37, false)) none (.raw ⟨none, (.lookup 84 (.tmp 38) (.tmp 40) false), 4, "", #[], none⟩) <|
    .rd (some 42) none none (.pick (.tmp 37) (.const (.bool true)) (.tmp 41)) <|
    .done) <|
  .cond (.tmp 42) (.seq (.reg <| .rd (some 2) none none (.mv (.const (.bool false))) <|
    .done) <|
  .ret) <|
  .skip) <|
  .reg <| .rd (some 43) none none (.mv (.tmp 3)) <|
    .rd (some 44) none none (.fa 0 (.tmp 5)) <|
    .rd (some 45) none none (.ld none (.tmp 44)) <|
    .ef none none 0 (.raw ⟨none, (.mapUpdate 84 (.tmp 43) (.tmp 45) (.const (.bool true))), 0, "", #[], none⟩) <|
    .done) <|
  .reg <| .rd (some 46) none none (.bin .add (.tmp 9) (.const (.int .i64 1))) <|
    .rd (some 9) none none (.mv (.tmp 46)) <|
    .done
def F15 : MF := ⟨50, [(2, none)],
  .seq (.reg <| .rd (some 2) none none (.mv (.const (.bool false))) <|
    .done) <|
  .seq (.reg <| .ef (some 6) none 0 (.raw ⟨none, (.makeMap 84 none), 84, "", #[], none⟩) <|
    .rd (some 3) none none (.mv (.tmp 6)) <|
    .done) <|
  .seq (.seq (.reg <| .rd (some 7) none none (.mv (.tmp 0)) <|
    .rd (some 8) none none (.len (.tmp 7)) <|
    .rd (some 9) none none (.mv (.const (.int .i64 0))) <|
    .done) <|
  .block 0 <|
  .loop F15b0) <|
  .seq (.reg <| .rd (some 47) none none (.mv (.tmp 0)) <|
    .rd (some 48) none none (.len (.tmp 47)) <|
    .rd (some 49) none none (.bin .gtr (.tmp 48) (.const (.int .i64 0))) <|
    .rd (some 2) none none (.mv (.tmp 49)) <|
    .done) <|
  .ret⟩
def F15.k : List Nat := [0, 2, 3, 5, 7, 8, 9, 10, 42]
theorem F15.ok : trF Try.prog 15 = some F15 := by kernel_rfl

/- (*dovecote.latch.Table).Raise -/
def F16 : MF := ⟨40, [(6, none)],
  .seq (.reg <| .ef (some 4) none 0 (.bx 25 2 (.tmp 1)) <|
    .ef (some 5) none 0 (.bx 28 2 (.tmp 2)) <|
    .rd (some 6) none none (.mv (.const (.bool false))) <|
    .done) <|
  .seq (.seq (.reg <| .rd (some 8) none none (.mv (.tmp 0)) <|
    .rd (some 9) none none (.eqn 4 false (.tmp 8) (.const (.pointer none))) <|
    .rd (some 10) none none (.mv (.tmp 9)) <|
    .rd (some 11) (some (10, false)) none (.mv (.tmp 0)) <|
    .rd (some 12) (some (10, false)) none (.nz (.tmp 11)) <|
    .rd (some 13) (some (10, false)) none (.fa 0 (.tmp 12)) <|
    .rd (some 14) (some (10, false)) (some 8192) (.ld none (.tmp 13)) <|
    .rd (some 15) (some (10, false)) (some 8192) (.ld (some 2) (.tmp 4)) <|
    .rd (some 16) (some (10, false)) (some 8192) (.raw ⟨none, (.lookup 59 (.tmp 14) (.tmp 15) false), 71, "", #[], none⟩) <|
    .rd (some 17) (some (10, false)) none (.eqn 4 false (.tmp 16) (.const (.pointer none))) <|
    .rd (some 18) none none (.pick (.tmp 10) (.const (.bool true)) (.tmp 17)) <|
    .rd (some 19) none none (.mv (.tmp 18)) <|
    .rd (some 20) (some (19, false)) (some 8192) (.ld (some 2) (.tmp 5)) <|
    .ef (some 21) (some (19, false)) 13 (.cl 27 [(.tmp 20)]) <|
    .rd (some 22) (some (19, false)) none (.un .not (.tmp 21)) <|
    .rd (some 23) none none (.pick (.tmp 19) (.const (.bool true)) (.tmp 22)) <|
    .done) <|
  .cond (.tmp 23) (.seq (.reg <| .rd (some 6) none none (.mv (.const (.bool false))) <|
    .done) <|
  .ret) <|
  .skip) <|
  .seq (.reg <| .rd (some 24) none none (.mv (.tmp 0)) <|
    .rd (some 25) none none (.nz (.tmp 24)) <|
    .rd (some 26) none none (.fa 0 (.tmp 25)) <|
    .rd (some 27) none (some 0) (.ld none (.tmp 26)) <|
    .rd (some 28) none (some 0) (.ld (some 2) (.tmp 4)) <|
    .rd (some 29) none (some 0) (.raw ⟨none, (.lookup 59 (.tmp 27) (.tmp 28) false), 71, "", #[], none⟩) <|
    .rd (some 7) none none (.mv (.tmp 29)) <|
    .done) <|
  .seq (.reg <| .rd (some 30) none none (.mv (.tmp 7)) <|
    .rd (some 31) none none (.mv (.tmp 7)) <|
    .rd (some 32) none none (.nz (.tmp 31)) <|
    .rd (some 33) none none (.fa 2 (.tmp 32)) <|
    .rd (some 34) none (some 1216) (.ld (some 2) (.tmp 33)) <|
    .rd (some 35) none (some 1216) (.ld (some 2) (.tmp 5)) <|
    .ef (some 36) none 6 (.raw ⟨none, (.buildSlice 104 2 #[(0, (.tmp 34)), (1, (.tmp 35))]), 104, "", #[], none⟩) <|
    .ef (some 37) none 7 (.cl 41 [(.tmp 36)]) <|
    .rd (some 38) none none (.nz (.tmp 30)) <|
    .rd (some 39) none none (.fa 2 (.tmp 38)) <|
    .ef none none 10 (.st 2 (.tmp 39) (.tmp 37)) <|
    .done) <|
  .seq (.reg <| .rd (some 6) none none (.mv (.const (.bool true))) <|
    .done) <|
  .ret⟩
def F16.k : List Nat := [0, 1, 2, 4, 5, 6, 7, 23]
theorem F16.ok : trF Try.prog 16 = some F16 := by kernel_rfl

/- (*dovecote.latch.Table).Of -/
def F17 : MF := ⟨35, [(4, (some (some 10))), (5, none)],
  .seq (.reg <| .ef (some 4) none 0 (.al 41 [(.int .u32 0), (.int .u32 0), (.int .u64 0), (.int .u32 0), (.int .u64 0), (.int .u32 0), (.string ⟨#[]⟩), (.string ⟨#[]⟩), (.string ⟨#[]⟩), (.bool false)]) <|
    .rd (some 5) none none (.mv (.const (.bool false))) <|
    .done) <|
  .seq (.seq (.reg <| .rd (some 8) none none (.mv (.tmp 0)) <|
    .rd (some 9) none none (.eqn 4 false (.tmp 8) (.const (.pointer none))) <|
    .done) <|
  .cond (.tmp 9) (.seq (.reg <| .rd (some 10) none none (.bld [(.int .u32 0), (.int .u32 0), (.int .u64 0), (.int .u32 0), (.int .u64 0), (.int .u32 0), (.string ⟨#[]⟩), (.string ⟨#[]⟩), (.string ⟨#[]⟩), (.bool false)] []) <|
    .ef none none 0 (.st 10 (.tmp 4) (.tmp 10)) <|
    .rd (some 5) none none (.mv (.const (.bool false))) <|
    .done) <|
  .ret) <|
  .skip) <|
  .seq (.reg <| .rd (some 12) none none (.mv (.tmp 0)) <|
    .rd (some 13) none none (.nz (.tmp 12)) <|
    .rd (some 14) none none (.fa 1 (.tmp 13)) <|
    .rd (some 15) none none (.ld none (.tmp 14)) <|
    .rd (some 16) none none (.mv (.tmp 1)) <|
    .ef (some 17) none 0 (.cl 30 [(.tmp 15), (.tmp 16)]) <|
    .rd (some 11) none none (.mv (.tmp 17)) <|
    .rd (some 18) none none (.ext (.tmp 11) 0) <|
    .rd (some 19) none none (.ext (.tmp 11) 1) <|
    .ef (some 6) none 0 (.al 63 [(.int .u32 0), (.int .u32 0), (.string ⟨#[]⟩), (.string ⟨#[]⟩), (.bool false)]) <|
    .ef none none 0 (.st 5 (.tmp 6) (.tmp 18)) <|
    .rd (some 7) none none (.mv (.tmp 19)) <|
    .done) <|
  .seq (.seq (.reg <| .rd (some 20) none none (.mv (.tmp 7)) <|
    .rd (some 21) none none (.un .not (.tmp 20)) <|
    .done) <|
  .cond (.tmp 21) (.seq (.reg <| .rd (some 22) none none (.bld [(.int .u32 0), (.int .u32 0), (.int .u64 0), (.int .u32 0), (.int .u64 0), (.int .u32 0), (.string ⟨#[]⟩), (.string ⟨#[]⟩), (.string ⟨#[]⟩), (.bool false)] []) <|
    .ef none none 0 (.st 10 (.tmp 4) (.tmp 22)) <|
    .rd (some 5) none none (.mv (.const (.bool false))) <|
    .done) <|
  .ret) <|
  .skip) <|
  .seq (.reg <| .rd (some 23) none none (.mv (.tmp 0)) <|
    .rd (some 24) none none (.nz (.tmp 23)) <|
    .rd (some 25) none none (.fa 0 (.tmp 24)) <|
    .rd (some 26) none (some 6144) (.ld none (.tmp 25)) <|
    .rd (some 27) none none (.fa 0 (.tmp 6)) <|
    .rd (some 28) none (some 6144) (.ld (some 2) (.tmp 27)) <|
    .rd (some 29) none (some 6144) (.raw ⟨none, (.lookup 59 (.tmp 26) (.tmp 28) false), 71, "", #[], none⟩) <|
    .rd (some 30) none none (.fa 0 (.tmp 6)) <|
    .rd (some 31) none (some 6144) (.ld (some 2) (.tmp 30)) <|
    .rd (some 32) none none (.fa 2 (.tmp 6)) <|
    .rd (some 33) none (some 6144) (.ld (some 3) (.tmp 32)) <|
    .ef (some 34) none 11 (.cl 39 [(.tmp 29), (.tmp 31), (.tmp 33)]) <|
    .ef none none 12 (.st 10 (.tmp 4) (.tmp 34)) <|
    .rd (some 5) none none (.mv (.const (.bool true))) <|
    .done) <|
  .ret⟩
def F17.k : List Nat := [0, 1, 4, 5, 6, 7, 9, 21]
theorem F17.ok : trF Try.prog 17 = some F17 := by kernel_rfl

/- dovecote.stamp.Right -/
def F27 : MF := ⟨11, [(2, none)],
  .seq (.reg <| .ef (some 1) none 0 (.bx 28 2 (.tmp 0)) <|
    .rd (some 2) none none (.mv (.const (.bool false))) <|
    .done) <|
  .seq (.reg <| .rd (some 3) none none (.fa 0 (.tmp 1)) <|
    .rd (some 4) none none (.ld none (.tmp 3)) <|
    .rd (some 5) none none (.bin .leq (.tmp 4) (.const (.int .u64 281474976710656))) <|
    .rd (some 6) none none (.mv (.tmp 5)) <|
    .rd (some 7) (some (6, true)) none (.fa 1 (.tmp 1)) <|
    .rd (some 8) (some (6, true)) none (.ld none (.tmp 7)) <|
    .rd (some 9) (some (6, true)) none (.bin .leq (.tmp 8) (.const (.int .u32 4095))) <|
    .rd (some 10) none none (.pick (.tmp 6) (.tmp 9) (.const (.bool false))) <|
    .rd (some 2) none none (.mv (.tmp 10)) <|
    .done) <|
  .ret⟩
def F27.k : List Nat := [0, 1, 2]
theorem F27.ok : trF Try.prog 27 = some F27 := by kernel_rfl

/- dovecote.latch.key -/
def F28 : MF := ⟨11, [(2, none)],
  .seq (.reg <| .rd (some 2) none none (.mv (.const (.bool false))) <|
    .done) <|
  .seq (.reg <| .rd (some 3) none none (.mv (.tmp 0)) <|
    .rd (some 4) none none (.slen (.tmp 3)) <|
    .rd (some 5) none none (.bin .geq (.tmp 4) (.const (.int .i64 1))) <|
    .rd (some 6) none none (.mv (.tmp 5)) <|
    .rd (some 7) (some (6, true)) none (.mv (.tmp 0)) <|
    .rd (some 8) (some (6, true)) none (.slen (.tmp 7)) <|
    .rd (some 9) (some (6, true)) none (.bin .leq (.tmp 8) (.const (.int .i64 32))) <|
    .rd (some 10) none none (.pick (.tmp 6) (.tmp 9) (.const (.bool false))) <|
    .rd (some 2) none none (.mv (.tmp 10)) <|
    .done) <|
  .ret⟩
def F28.k : List Nat := [0, 2]
theorem F28.ok : trF Try.prog 28 = some F28 := by kernel_rfl

/- (*dovecote.latch.Table).Lay$1 -/
def F29 : MF := ⟨17, [(3, none)],
  .seq (.reg <| .ef (some 2) none 0 (.bx 39 3 (.tmp 0)) <|
    .rd (some 3) none none (.mv (.const (.bool false))) <|
    .done) <|
  .seq (.reg <| .rd (some 7) none (some 2112) (.ld none (.tmp 1)) <|
    .rd (some 8) none none (.nz (.tmp 7)) <|
    .rd (some 9) none none (.fa 1 (.tmp 8)) <|
    .rd (some 10) none (some 2112) (.ld none (.tmp 9)) <|
    .rd (some 11) none none (.fa 0 (.tmp 2)) <|
    .rd (some 12) none (some 2112) (.ld none (.tmp 11)) <|
    .alt (.ef (some 13) none 6 (.cl 30 [(.tmp 10), (.tmp 12)]) <|
    .rd (some 6) none none (.mv (.tmp 13)) <|
    .rd (some 14) none none (.ext (.tmp 6) 0) <|
    .rd (some 15) none none (.ext (.tmp 6) 1) <|
    .ef (some 4) none 10 (.al 63 [(.int .u32 0), (.int .u32 0), (.string ⟨#[]⟩), (.string ⟨#[]⟩), (.bool false)]) <|
    .ef none none 11 (.st 5 (.tmp 4) (.tmp 14)) <|
    .rd (some 5) none none (.mv (.tmp 15)) <|
    .done) <|
    .ef (some 4) none 10 (.al 63 [(.int .u32 0), (.int .u32 0), (.string ⟨#[]⟩), (.string ⟨#[]⟩), (.bool false)]) <|
    .ef (some 13) none 6 (.cl 30 [(.tmp 10), (.tmp 12)]) <|
    .rd (some 6) none none (.mv (.tmp 13)) <|
    .rd (some 14) none none (.ext (.tmp 6) 0) <|
    .rd (some 15) none none (.ext (.tmp 6) 1) <|
    .ef none none 11 (.st 5 (.tmp 4) (.tmp 14)) <|
    .rd (some 5) none none (.mv (.tmp 15)) <|
    .done) <|
  .seq (.reg <| .rd (some 16) none none (.mv (.tmp 5)) <|
    .rd (some 3) none none (.mv (.tmp 16)) <|
    .done) <|
  .ret⟩
def F29.k : List Nat := [0, 1, 2, 3, 5]
theorem F29.ok : trF Try.prog 29 = some F29 := by kernel_rfl

/- slices.ContainsFunc[[]dovecote.api.Write,dovecote.api.Write] -/
def F31 : MF := ⟨9, [(4, none)],
  .seq (.reg <| .rd (some 4) none none (.mv (.const (.bool false))) <|
    .done) <|
  .seq (.reg <| .rd (some 5) none none (.mv (.tmp 0)) <|
    .rd (some 6) none none (.mv (.tmp 1)) <|
    .ef (some 7) none 0 (.cl 48 [(.tmp 5), (.tmp 6)]) <|
    .rd (some 8) none none (.bin .geq (.tmp 7) (.const (.int .i64 0))) <|
    .rd (some 4) none none (.mv (.tmp 8)) <|
    .done) <|
  .ret⟩
def F31.k : List Nat := [0, 1, 4]
theorem F31.ok : trF Try.prog 31 = some F31 := by kernel_rfl

/- slices.Clone[[]dovecote.api.Write,dovecote.api.Write] -/
def F32 : MF := ⟨8, [(2, none)],
  .seq (.reg <| .rd (some 2) none none (.mv (.const (.slice none 0 0))) <|
    .done) <|
  .seq (.seq (.reg <| .rd (some 3) none none (.mv (.tmp 0)) <|
    .rd (some 4) none none (.eqn 6 false (.tmp 3) (.const (.slice none 0 0))) <|
    .done) <|
  .cond (.tmp 4) (.seq (.reg <| .rd (some 2) none none (.mv (.const (.slice none 0 0))) <|
    .done) <|
  .ret) <|
  .skip) <|
  .seq (.reg <| .ef (some 5) none 0 (.raw ⟨none, (.buildSlice 29 0 #[]), 29, "", #[], none⟩) <|
    .rd (some 6) none none (.mv (.tmp 0)) <|
    .ef (some 7) none 0 (.raw ⟨none, (.call ⟨(.builtin .append), #[(.tmp 5), (.tmp 6)], #[29, 29]⟩), 29, "", #[], none⟩) <|
    .rd (some 2) none none (.mv (.tmp 7)) <|
    .done) <|
  .ret⟩
def F32.k : List Nat := [0, 2, 4]
theorem F32.ok : trF Try.prog 32 = some F32 := by kernel_rfl

/- (*dovecote.latch.Table).Lay$2 -/
def F34 : MF := ⟨10, [(4, none)],
  .seq (.reg <| .ef (some 2) none 0 (.bx 39 3 (.tmp 0)) <|
    .ef (some 3) none 0 (.bx 39 3 (.tmp 1)) <|
    .rd (some 4) none none (.mv (.const (.int .i64 0))) <|
    .done) <|
  .seq (.seq (.reg <| .rd (some 5) none none (.fa 0 (.tmp 2)) <|
    .rd (some 6) none none (.ld none (.tmp 5)) <|
    .rd (some 7) none none (.fa 0 (.tmp 3)) <|
    .rd (some 8) none none (.ld none (.tmp 7)) <|
    .rd (some 9) none none (.bin .lss (.tmp 6) (.tmp 8)) <|
    .done) <|
  .cond (.tmp 9) (.seq (.reg <| .rd (some 4) none none (.mv (.const (.int .i64 (-1)))) <|
    .done) <|
  .ret) <|
  .skip) <|
  .seq (.reg <| .rd (some 4) none none (.mv (.const (.int .i64 1))) <|
    .done) <|
  .ret⟩
def F34.k : List Nat := [0, 1, 2, 3, 4, 9]
theorem F34.ok : trF Try.prog 34 = some F34 := by kernel_rfl

/- dovecote.stamp.Less -/
def F37 : MF := ⟨18, [(4, none)],
  .seq (.reg <| .ef (some 2) none 0 (.bx 28 2 (.tmp 0)) <|
    .ef (some 3) none 0 (.bx 28 2 (.tmp 1)) <|
    .rd (some 4) none none (.mv (.const (.bool false))) <|
    .done) <|
  .seq (.reg <| .rd (some 5) none none (.fa 0 (.tmp 2)) <|
    .rd (some 6) none (some 3600) (.ld none (.tmp 5)) <|
    .rd (some 7) none none (.fa 0 (.tmp 3)) <|
    .rd (some 8) none (some 3600) (.ld none (.tmp 7)) <|
    .rd (some 10) none none (.fa 1 (.tmp 2)) <|
    .rd (some 11) none (some 3584) (.ld none (.tmp 10)) <|
    .rd (some 12) none none (.fa 1 (.tmp 3)) <|
    .rd (some 13) none (some 3584) (.ld none (.tmp 12)) <|
    .ef (some 9) none 4 (.cl 54 [(.tmp 6), (.tmp 8)]) <|
    .ef (some 14) none 9 (.cl 55 [(.tmp 11), (.tmp 13)]) <|
    .ef (some 15) none 10 (.raw ⟨none, (.buildSlice 116 2 #[(0, (.tmp 9)), (1, (.tmp 14))]), 116, "", #[], none⟩) <|
    .ef (some 16) none 11 (.cl 53 [(.tmp 15)]) <|
    .rd (some 17) none none (.bin .lss (.tmp 16) (.const (.int .i64 0))) <|
    .rd (some 4) none none (.mv (.tmp 17)) <|
    .done) <|
  .ret⟩
def F37.k : List Nat := [0, 1, 2, 3, 4]
theorem F37.ok : trF Try.prog 37 = some F37 := by kernel_rfl

/- slices.Contains[[]dovecote.api.Txn,dovecote.api.Txn] -/
def F38 : MF := ⟨9, [(4, none)],
  .seq (.reg <| .ef (some 3) none 0 (.bx 25 2 (.tmp 1)) <|
    .rd (some 4) none none (.mv (.const (.bool false))) <|
    .done) <|
  .seq (.reg <| .rd (some 5) none none (.mv (.tmp 0)) <|
    .rd (some 6) none none (.ld (some 2) (.tmp 3)) <|
    .ef (some 7) none 0 (.cl 56 [(.tmp 5), (.tmp 6)]) <|
    .rd (some 8) none none (.bin .geq (.tmp 7) (.const (.int .i64 0))) <|
    .rd (some 4) none none (.mv (.tmp 8)) <|
    .done) <|
  .ret⟩
def F38.k : List Nat := [0, 1, 3, 4]
theorem F38.ok : trF Try.prog 38 = some F38 := by kernel_rfl

/- (*dovecote.latch.holder).intent -/
def F39 : MF := ⟨22, [(6, (some (some 10)))],
  .seq (.reg <| .ef (some 4) none 0 (.bx 25 2 (.tmp 1)) <|
    .ef (some 5) none 0 (.bx 39 3 (.tmp 2)) <|
    .ef (some 6) none 0 (.al 41 [(.int .u32 0), (.int .u32 0), (.int .u64 0), (.int .u32 0), (.int .u64 0), (.int .u32 0), (.string ⟨#[]⟩), (.string ⟨#[]⟩), (.string ⟨#[]⟩), (.bool false)]) <|
    .done) <|
  .seq (.reg <| .rd (some 7) none (some 32768) (.ld (some 2) (.tmp 4)) <|
    .rd (some 8) none none (.mv (.tmp 0)) <|
    .rd (some 9) none none (.nz (.tmp 8)) <|
    .rd (some 10) none none (.fa 0 (.tmp 9)) <|
    .rd (some 11) none (some 32768) (.ld (some 2) (.tmp 10)) <|
    .rd (some 12) none none (.mv (.tmp 0)) <|
    .rd (some 13) none none (.nz (.tmp 12)) <|
    .rd (some 14) none none (.fa 2 (.tmp 13)) <|
    .rd (some 15) none (some 32768) (.ld (some 2) (.tmp 14)) <|
    .rd (some 16) none none (.mv (.tmp 0)) <|
    .rd (some 17) none none (.nz (.tmp 16)) <|
    .rd (some 18) none none (.fa 4 (.tmp 17)) <|
    .rd (some 19) none (some 32768) (.ld none (.tmp 18)) <|
    .rd (some 20) none (some 32768) (.ld (some 3) (.tmp 5)) <|
    .rd (some 21) none none (.bld [(.int .u32 0), (.int .u32 0), (.int .u64 0), (.int .u32 0), (.int .u64 0), (.int .u32 0), (.string ⟨#[]⟩), (.string ⟨#[]⟩), (.string ⟨#[]⟩), (.bool false)] [(0, 2, (.tmp 7)), (2, 2, (.tmp 11)), (4, 2, (.tmp 15)), (6, 1, (.tmp 19)), (7, 3, (.tmp 20))]) <|
    .ef none none 15 (.st 10 (.tmp 6) (.tmp 21)) <|
    .done) <|
  .ret⟩
def F39.k : List Nat := [0, 1, 2, 4, 5, 6]
theorem F39.ok : trF Try.prog 39 = some F39 := by kernel_rfl

/- dovecote.stamp.Max -/
abbrev F41b0 : MC :=
  .seq (.reg <| .rd (some 9) none none (.bin .lss (.tmp 8) (.tmp 7)) <|
    .done) <|
  .seq (.cond (.tmp 9) (.skip) <|
  .exit 0) <|
  .seq (.block 1 <|
  .seq (.reg <| .rd (some 10) none none (.ia 2 (.tmp 6) (.tmp 8)) <|
    .rd (some 11) none none (.ld (some 2) (.tmp 10)) <|
    .ef (some 5) none 0 (.al 28 [(.int .u64 0), (.int .u32 0)]) <|
    .ef none none 0 (.st 2 (.tmp 5) (.tmp 11)) <|
    .done) <|
  .seq (.reg <| .rd (some 12) none none (.ld (some 2) (.tmp 3)) <|
    .rd (some 13) none none (.ld (some 2) (.tmp 5)) <|
    .ef (some 14) none 0 (.cl 37 [(.tmp 12), (.tmp 13)]) <|
    .done) <|
  .cond (.tmp 14) (.reg <| .rd (some 15) none none (.ld (some 2) (.tmp 5)) <|
    .ef none none 0 (.st 2 (.tmp 3) (.tmp 15)) <|
    .done) <|
  .skip) <|
  .reg <| .rd (some 16) none none (.bin .add (.tmp 8) (.const (.int .i64 1))) <|
    .rd (some 8) none none (.mv (.tmp 16)) <|
    .done
def F41 : MF := ⟨18, [(2, (some (some 2)))],
  .seq (.reg <| .ef (some 2) none 0 (.al 28 [(.int .u64 0), (.int .u32 0)]) <|
    .done) <|
  .seq (.reg <| .ef (some 3) none 0 (.al 28 [(.int .u64 0), (.int .u32 0)]) <|
    .done) <|
  .seq (.seq (.reg <| .rd (some 6) none none (.mv (.tmp 0)) <|
    .rd (some 7) none none (.len (.tmp 6)) <|
    .rd (some 8) none none (.mv (.const (.int .i64 0))) <|
    .done) <|
  .block 0 <|
  .loop F41b0) <|
  .seq (.reg <| .rd (some 17) none none (.ld (some 2) (.tmp 3)) <|
    .ef none none 0 (.st 2 (.tmp 2) (.tmp 17)) <|
    .done) <|
  .ret⟩
def F41.k : List Nat := [0, 2, 3, 5, 6, 7, 8, 9, 14]
theorem F41.ok : trF Try.prog 41 = some F41 := by kernel_rfl

/- slices.IndexFunc[[]dovecote.api.Write,dovecote.api.Write] -/
abbrev F48b0 : MC :=
  .seq (.reg <| .rd (some 9) none none (.bin .lss (.tmp 8) (.tmp 7)) <|
    .done) <|
  .seq (.cond (.tmp 9) (.skip) <|
  .exit 0) <|
  .seq (.block 1 <|
  .seq (.reg <| .rd (some 10) none none (.mv (.tmp 8)) <|
    .rd (some 5) none none (.mv (.tmp 10)) <|
    .done) <|
  .seq (.reg <| .rd (some 11) none none (.mv (.tmp 1)) <|
    .rd (some 12) none none (.mv (.tmp 0)) <|
    .rd (some 13) none none (.mv (.tmp 5)) <|
    .rd (some 14) none none (.ia 3 (.tmp 12) (.tmp 13)) <|
    .rd (some 15) none none (.ld (some 3) (.tmp 14)) <|
    .ef (some 16) none 0 (.cv (.tmp 11) [(.tmp 15)]) <|
    .done) <|
  .cond (.tmp 16) (.seq (.reg <| .rd (some 17) none none (.mv (.tmp 5)) <|
    .rd (some 4) none none (.mv (.tmp 17)) <|
    .done) <|
  .ret) <|
  .skip) <|
  .reg <| .rd (some 18) none none (.bin .add (.tmp 8) (.const (.int .i64 1))) <|
    .rd (some 8) none none (.mv (.tmp 18)) <|
    .done
def F48 : MF := ⟨19, [(4, none)],
  .seq (.reg <| .rd (some 4) none none (.mv (.const (.int .i64 0))) <|
    .done) <|
  .seq (.seq (.reg <| .rd (some 6) none none (.mv (.tmp 0)) <|
    .rd (some 7) none none (.len (.tmp 6)) <|
    .rd (some 8) none none (.mv (.const (.int .i64 0))) <|
    .done) <|
  .block 0 <|
  .loop F48b0) <|
  .seq (.reg <| .rd (some 4) none none (.mv (.const (.int .i64 (-1)))) <|
    .done) <|
  .ret⟩
def F48.k : List Nat := [0, 1, 4, 5, 7, 8, 9, 16]
theorem F48.ok : trF Try.prog 48 = some F48 := by kernel_rfl

/- cmp.Or[int] -/
abbrev F53b0 : MC :=
  .seq (.reg <| .rd (some 9) none none (.bin .lss (.tmp 8) (.tmp 7)) <|
    .done) <|
  .seq (.cond (.tmp 9) (.skip) <|
  .exit 0) <|
  .seq (.block 1 <|
  .seq (.reg <| .rd (some 10) none none (.ia 1 (.tmp 6) (.tmp 8)) <|
    .rd (some 11) none none (.ld none (.tmp 10)) <|
    .rd (some 5) none none (.mv (.tmp 11)) <|
    .done) <|
  .seq (.reg <| .rd (some 12) none none (.mv (.tmp 5)) <|
    .rd (some 13) none none (.mv (.tmp 3)) <|
    .rd (some 14) none none (.bin .neq (.tmp 12) (.tmp 13)) <|
    .done) <|
  .cond (.tmp 14) (.seq (.reg <| .rd (some 15) none none (.mv (.tmp 5)) <|
    .rd (some 2) none none (.mv (.tmp 15)) <|
    .done) <|
  .ret) <|
  .skip) <|
  .reg <| .rd (some 16) none none (.bin .add (.tmp 8) (.const (.int .i64 1))) <|
    .rd (some 8) none none (.mv (.tmp 16)) <|
    .done
def F53 : MF := ⟨18, [(2, none)],
  .seq (.reg <| .rd (some 2) none none (.mv (.const (.int .i64 0))) <|
    .done) <|
  .seq (.reg <| .rd (some 3) none none (.mv (.const (.int .i64 0))) <|
    .done) <|
  .seq (.seq (.reg <| .rd (some 6) none none (.mv (.tmp 0)) <|
    .rd (some 7) none none (.len (.tmp 6)) <|
    .rd (some 8) none none (.mv (.const (.int .i64 0))) <|
    .done) <|
  .block 0 <|
  .loop F53b0) <|
  .seq (.reg <| .rd (some 17) none none (.mv (.tmp 3)) <|
    .rd (some 2) none none (.mv (.tmp 17)) <|
    .done) <|
  .ret⟩
def F53.k : List Nat := [0, 2, 3, 5, 6, 7, 8, 9, 14]
theorem F53.ok : trF Try.prog 53 = some F53 := by kernel_rfl

/- cmp.Compare[uint64] -/
def F54 : MF := ⟨20, [(4, none)],
  .seq (.reg <| .rd (some 4) none none (.mv (.const (.int .i64 0))) <|
    .done) <|
  .seq (.reg <| .rd (some 7) none none (.mv (.tmp 0)) <|
    .ef (some 8) none 0 (.cl 69 [(.tmp 7)]) <|
    .rd (some 5) none none (.mv (.tmp 8)) <|
    .done) <|
  .seq (.reg <| .rd (some 9) none none (.mv (.tmp 1)) <|
    .ef (some 10) none 0 (.cl 69 [(.tmp 9)]) <|
    .rd (some 6) none none (.mv (.tmp 10)) <|
    .done) <|
  .seq (.seq (.reg <| .rd (some 11) none none (.mv (.tmp 5)) <|
    .done) <|
  .cond (.tmp 11) (.seq (.seq (.reg <| .rd (some 12) none none (.mv (.tmp 6)) <|
    .done) <|
  .cond (.tmp 12) (.seq (.reg <| .rd (some 4) none none (.mv (.const (.int .i64 0))) <|
    .done) <|
  .ret) <|
  .skip) <|
  .seq (.reg <| .rd (some 4) none none (.mv (.const (.int .i64 (-1)))) <|
    .done) <|
  .ret) <|
  .skip) <|
  .seq (.seq (.reg <| .rd (some 13) none none (.mv (.tmp 6)) <|
    .done) <|
  .cond (.tmp 13) (.seq (.reg <| .rd (some 4) none none (.mv (.const (.int .i64 1))) <|
    .done) <|
  .ret) <|
  .skip) <|
  .seq (.seq (.reg <| .rd (some 14) none none (.mv (.tmp 0)) <|
    .rd (some 15) none none (.mv (.tmp 1)) <|
    .rd (some 16) none none (.bin .lss (.tmp 14) (.tmp 15)) <|
    .done) <|
  .cond (.tmp 16) (.seq (.reg <| .rd (some 4) none none (.mv (.const (.int .i64 (-1)))) <|
    .done) <|
  .ret) <|
  .skip) <|
  .seq (.seq (.reg <| .rd (some 17) none none (.mv (.tmp 0)) <|
    .rd (some 18) none none (.mv (.tmp 1)) <|
    .rd (some 19) none none (.bin .gtr (.tmp 17) (.tmp 18)) <|
    .done) <|
  .cond (.tmp 19) (.seq (.reg <| .rd (some 4) none none (.mv (.const (.int .i64 1))) <|
    .done) <|
  .ret) <|
  .skip) <|
  .seq (.reg <| .rd (some 4) none none (.mv (.const (.int .i64 0))) <|
    .done) <|
  .ret⟩
def F54.k : List Nat := [0, 1, 4, 5, 6, 11, 12, 13, 16, 19]
theorem F54.ok : trF Try.prog 54 = some F54 := by kernel_rfl

/- cmp.Compare[uint32] -/
def F55 : MF := ⟨20, [(4, none)],
  .seq (.reg <| .rd (some 4) none none (.mv (.const (.int .i64 0))) <|
    .done) <|
  .seq (.reg <| .rd (some 7) none none (.mv (.tmp 0)) <|
    .ef (some 8) none 0 (.cl 70 [(.tmp 7)]) <|
    .rd (some 5) none none (.mv (.tmp 8)) <|
    .done) <|
  .seq (.reg <| .rd (some 9) none none (.mv (.tmp 1)) <|
    .ef (some 10) none 0 (.cl 70 [(.tmp 9)]) <|
    .rd (some 6) none none (.mv (.tmp 10)) <|
    .done) <|
  .seq (.seq (.reg <| .rd (some 11) none none (.mv (.tmp 5)) <|
    .done) <|
  .cond (.tmp 11) (.seq (.seq (.reg <| .rd (some 12) none none (.mv (.tmp 6)) <|
    .done) <|
  .cond (.tmp 12) (.seq (.reg <| .rd (some 4) none none (.mv (.const (.int .i64 0))) <|
    .done) <|
  .ret) <|
  .skip) <|
  .seq (.reg <| .rd (some 4) none none (.mv (.const (.int .i64 (-1)))) <|
    .done) <|
  .ret) <|
  .skip) <|
  .seq (.seq (.reg <| .rd (some 13) none none (.mv (.tmp 6)) <|
    .done) <|
  .cond (.tmp 13) (.seq (.reg <| .rd (some 4) none none (.mv (.const (.int .i64 1))) <|
    .done) <|
  .ret) <|
  .skip) <|
  .seq (.seq (.reg <| .rd (some 14) none none (.mv (.tmp 0)) <|
    .rd (some 15) none none (.mv (.tmp 1)) <|
    .rd (some 16) none none (.bin .lss (.tmp 14) (.tmp 15)) <|
    .done) <|
  .cond (.tmp 16) (.seq (.reg <| .rd (some 4) none none (.mv (.const (.int .i64 (-1)))) <|
    .done) <|
  .ret) <|
  .skip) <|
  .seq (.seq (.reg <| .rd (some 17) none none (.mv (.tmp 0)) <|
    .rd (some 18) none none (.mv (.tmp 1)) <|
    .rd (some 19) none none (.bin .gtr (.tmp 17) (.tmp 18)) <|
    .done) <|
  .cond (.tmp 19) (.seq (.reg <| .rd (some 4) none none (.mv (.const (.int .i64 1))) <|
    .done) <|
  .ret) <|
  .skip) <|
  .seq (.reg <| .rd (some 4) none none (.mv (.const (.int .i64 0))) <|
    .done) <|
  .ret⟩
def F55.k : List Nat := [0, 1, 4, 5, 6, 11, 12, 13, 16, 19]
theorem F55.ok : trF Try.prog 55 = some F55 := by kernel_rfl

/- slices.Index[[]dovecote.api.Txn,dovecote.api.Txn] -/
abbrev F56b0 : MC :=
  .seq (.reg <| .rd (some 9) none none (.bin .lss (.tmp 8) (.tmp 7)) <|
    .done) <|
  .seq (.cond (.tmp 9) (.skip) <|
  .exit 0) <|
  .seq (.block 1 <|
  .seq (.reg <| .rd (some 10) none none (.mv (.tmp 8)) <|
    .rd (some 5) none none (.mv (.tmp 10)) <|
    .done) <|
  .seq (.reg <| .rd (some 11) none (some 0) (.ld (some 2) (.tmp 3)) <|
    .rd (some 12) none none (.mv (.tmp 0)) <|
    .rd (some 13) none none (.mv (.tmp 5)) <|
    .rd (some 14) none none (.ia 2 (.tmp 12) (.tmp 13)) <|
    .rd (some 15) none (some 0) (.ld (some 2) (.tmp 14)) <|
    .rd (some 16) none none (.eqs false [(.int .u32), (.int .u32)] (.tmp 11) (.tmp 15)) <|
    .done) <|
  .cond (.tmp 16) (.seq (.reg <| .rd (some 17) none none (.mv (.tmp 5)) <|
    .rd (some 4) none none (.mv (.tmp 17)) <|
    .done) <|
  .ret) <|
  .skip) <|
  .reg <| .rd (some 18) none none (.bin .add (.tmp 8) (.const (.int .i64 1))) <|
    .rd (some 8) none none (.mv (.tmp 18)) <|
    .done
def F56 : MF := ⟨19, [(4, none)],
  .seq (.reg <| .ef (some 3) none 0 (.bx 25 2 (.tmp 1)) <|
    .rd (some 4) none none (.mv (.const (.int .i64 0))) <|
    .done) <|
  .seq (.seq (.reg <| .rd (some 6) none none (.mv (.tmp 0)) <|
    .rd (some 7) none none (.len (.tmp 6)) <|
    .rd (some 8) none none (.mv (.const (.int .i64 0))) <|
    .done) <|
  .block 0 <|
  .loop F56b0) <|
  .seq (.reg <| .rd (some 4) none none (.mv (.const (.int .i64 (-1)))) <|
    .done) <|
  .ret⟩
def F56.k : List Nat := [0, 1, 3, 4, 5, 7, 8, 9, 16]
theorem F56.ok : trF Try.prog 56 = some F56 := by kernel_rfl

/- cmp.isNaN[uint64] -/
def F69 : MF := ⟨6, [(2, none)],
  .seq (.reg <| .rd (some 2) none none (.mv (.const (.bool false))) <|
    .done) <|
  .seq (.reg <| .rd (some 3) none none (.mv (.tmp 0)) <|
    .rd (some 4) none none (.mv (.tmp 0)) <|
    .rd (some 5) none none (.bin .neq (.tmp 3) (.tmp 4)) <|
    .rd (some 2) none none (.mv (.tmp 5)) <|
    .done) <|
  .ret⟩
def F69.k : List Nat := [0, 2]
theorem F69.ok : trF Try.prog 69 = some F69 := by kernel_rfl

/- cmp.isNaN[uint32] -/
def F70 : MF := ⟨6, [(2, none)],
  .seq (.reg <| .rd (some 2) none none (.mv (.const (.bool false))) <|
    .done) <|
  .seq (.reg <| .rd (some 3) none none (.mv (.tmp 0)) <|
    .rd (some 4) none none (.mv (.tmp 0)) <|
    .rd (some 5) none none (.bin .neq (.tmp 3) (.tmp 4)) <|
    .rd (some 2) none none (.mv (.tmp 5)) <|
    .done) <|
  .ret⟩
def F70.k : List Nat := [0, 2]
theorem F70.ok : trF Try.prog 70 = some F70 := by kernel_rfl

end Go.Proofs.Ythcbefkgfhokoaa

/- Stamps, keys; small functions. -/
namespace Go.Proofs.Ythcbefkgfhokoaa
open Go Go.Dv
set_option maxRecDepth 100000
attribute [local irreducible] HTh HM En Fsp TrA Cl MpA OwS RdS MpO

structure Tx where
  c : Int
  n : Int
structure Sm where
  p : Int
  l : Int
structure Wr where
  key : ByteArray
  val : ByteArray
  dead : Bool
def Tx.V (t : Tx) : Value := .agg #[.int .u32 t.c, .int .u32 t.n]
def Sm.V (t : Sm) : Value := .agg #[.int .u64 t.p, .int .u32 t.l]
def Wr.V (w : Wr) : Value := .agg #[.string w.key, .string w.val, .bool w.dead]
def Sm.ok (t : Sm) : Bool := bif decide (t.p ≤ 281474976710656) then decide (t.l ≤ 4095) else false
def keyR (k : ByteArray) : Bool := bif decide (1 ≤ (k.size : Int)) then decide ((k.size : Int) ≤ 32) else false

theorem Right_spec (t : Sm) : Fsp Try.prog 27 [t.V] [] fun u aa' => u = .bool t.ok ∧ aa' = [] := by
  obtain ⟨p, l⟩ := t
  refine spec_of F27.ok rfl fun gl X => ?_
  dsimp only [List.cons_append, List.nil_append]
  simp only [Sm.V]
  (repeat (first | ((with_reducible apply t_run); exact rfl) | ((with_reducible apply t_p); exact rfl; exact rfl) | ((with_reducible apply t_gr); exact rfl) | ((with_reducible apply t_ge); exact rfl) | ((with_reducible apply t_ld); exact rfl; exact rfl; (repeat (first | with_reducible exact Pk.h | with_reducible apply Pk.t)); exact rfl) | ((with_reducible apply t_st); exact rfl; exact rfl; exact rfl; (repeat (first | with_reducible exact Pk.h | with_reducible apply Pk.t)); exact rfl; exact rfl; exact Nat.le_of_ble_eq_true rfl; exact rfl; (repeat (first | apply rk_nil | (apply rk_skip; exact rfl) | (apply rk_ld; exact rfl; (repeat (first | with_reducible exact Pk.h | with_reducible apply Pk.t)); exact rfl)))) | ((with_reducible apply t_nx F27.k); exact rfl; exact rfl) | with_reducible apply m_seq | (with_reducible apply m_reg mix) | with_reducible apply m_block | ((with_reducible apply m_ct); exact rfl) | ((with_reducible apply m_cf); exact rfl) | ((with_reducible apply m_skn); exact rfl) | ((with_reducible apply m_exn); exact rfl)))
  refine t_bx rfl rfl rfl fun b1 => ⟨(by (repeat (first | apply rk_nil | (apply rk_skip; exact rfl) | (apply rk_ld; exact rfl; (repeat (first | with_reducible exact Pk.h | with_reducible apply Pk.t)); exact rfl)))), ?_⟩
  try dsimp only [List.cons_append, List.nil_append]
  (repeat (first | ((with_reducible apply t_run); exact rfl) | ((with_reducible apply t_p); exact rfl; exact rfl) | ((with_reducible apply t_gr); exact rfl) | ((with_reducible apply t_ge); exact rfl) | ((with_reducible apply t_ld); exact rfl; exact rfl; (repeat (first | with_reducible exact Pk.h | with_reducible apply Pk.t)); exact rfl) | ((with_reducible apply t_st); exact rfl; exact rfl; exact rfl; (repeat (first | with_reducible exact Pk.h | with_reducible apply Pk.t)); exact rfl; exact rfl; exact Nat.le_of_ble_eq_true rfl; exact rfl; (repeat (first | apply rk_nil | (apply rk_skip; exact rfl) | (apply rk_ld; exact rfl; (repeat (first | with_reducible exact Pk.h | with_reducible apply Pk.t)); exact rfl)))) | ((with_reducible apply t_nx F27.k); exact rfl; exact rfl) | with_reducible apply m_seq | (with_reducible apply m_reg mix) | with_reducible apply m_block | ((with_reducible apply m_ct); exact rfl) | ((with_reducible apply m_cf); exact rfl) | ((with_reducible apply m_skn); exact rfl) | ((with_reducible apply m_exn); exact rfl)))
  refine t_spl 6 rfl (fun q1 => ?_) (fun q1 => ?_)
  · (repeat (first | ((with_reducible apply t_run); exact rfl) | ((with_reducible apply t_p); exact rfl; exact rfl) | ((with_reducible apply t_gr); exact rfl) | ((with_reducible apply t_ge); exact rfl) | ((with_reducible apply t_ld); exact rfl; exact rfl; (repeat (first | with_reducible exact Pk.h | with_reducible apply Pk.t)); exact rfl) | ((with_reducible apply t_st); exact rfl; exact rfl; exact rfl; (repeat (first | with_reducible exact Pk.h | with_reducible apply Pk.t)); exact rfl; exact rfl; exact Nat.le_of_ble_eq_true rfl; exact rfl; (repeat (first | apply rk_nil | (apply rk_skip; exact rfl) | (apply rk_ld; exact rfl; (repeat (first | with_reducible exact Pk.h | with_reducible apply Pk.t)); exact rfl)))) | ((with_reducible apply t_nx F27.k); exact rfl; exact rfl) | with_reducible apply m_seq | (with_reducible apply m_reg mix) | with_reducible apply m_block | ((with_reducible apply m_ct); exact rfl) | ((with_reducible apply m_cf); exact rfl) | ((with_reducible apply m_skn); exact rfl) | ((with_reducible apply m_exn); exact rfl)))
    apply m_ret
    · rfl
    · (repeat (first | apply rs_nil | (apply rs_tmp; exact rfl) | (apply rs_cell; exact rfl; (repeat (first | with_reducible exact Pk.h | with_reducible apply Pk.t)); exact rfl)))
    · exact ⟨(by simp only [Sm.ok, q1]; rfl), rfl⟩
    · exact (by repeat (first | apply Sx.nil | apply Pk.h | apply Sx.cons | apply Pk.t))
  · (repeat (first | ((with_reducible apply t_run); exact rfl) | ((with_reducible apply t_p); exact rfl; exact rfl) | ((with_reducible apply t_gr); exact rfl) | ((with_reducible apply t_ge); exact rfl) | ((with_reducible apply t_ld); exact rfl; exact rfl; (repeat (first | with_reducible exact Pk.h | with_reducible apply Pk.t)); exact rfl) | ((with_reducible apply t_st); exact rfl; exact rfl; exact rfl; (repeat (first | with_reducible exact Pk.h | with_reducible apply Pk.t)); exact rfl; exact rfl; exact Nat.le_of_ble_eq_true rfl; exact rfl; (repeat (first | apply rk_nil | (apply rk_skip; exact rfl) | (apply rk_ld; exact rfl; (repeat (first | with_reducible exact Pk.h | with_reducible apply Pk.t)); exact rfl)))) | ((with_reducible apply t_nx F27.k); exact rfl; exact rfl) | with_reducible apply m_seq | (with_reducible apply m_reg mix) | with_reducible apply m_block | ((with_reducible apply m_ct); exact rfl) | ((with_reducible apply m_cf); exact rfl) | ((with_reducible apply m_skn); exact rfl) | ((with_reducible apply m_exn); exact rfl)))
    apply m_ret
    · rfl
    · (repeat (first | apply rs_nil | (apply rs_tmp; exact rfl) | (apply rs_cell; exact rfl; (repeat (first | with_reducible exact Pk.h | with_reducible apply Pk.t)); exact rfl)))
    · exact ⟨(by simp only [Sm.ok, q1]; rfl), rfl⟩
    · exact (by repeat (first | apply Sx.nil | apply Pk.h | apply Sx.cons | apply Pk.t))

theorem key_spec (s : ByteArray) : Fsp Try.prog 28 [.string s] [] fun u aa' => u = .bool (keyR s) ∧ aa' = [] := by
  refine spec_of F28.ok rfl fun gl X => ?_
  dsimp only [List.cons_append, List.nil_append]
  (repeat (first | ((with_reducible apply t_run); exact rfl) | ((with_reducible apply t_p); exact rfl; exact rfl) | ((with_reducible apply t_gr); exact rfl) | ((with_reducible apply t_ge); exact rfl) | ((with_reducible apply t_ld); exact rfl; exact rfl; (repeat (first | with_reducible exact Pk.h | with_reducible apply Pk.t)); exact rfl) | ((with_reducible apply t_st); exact rfl; exact rfl; exact rfl; (repeat (first | with_reducible exact Pk.h | with_reducible apply Pk.t)); exact rfl; exact rfl; exact Nat.le_of_ble_eq_true rfl; exact rfl; (repeat (first | apply rk_nil | (apply rk_skip; exact rfl) | (apply rk_ld; exact rfl; (repeat (first | with_reducible exact Pk.h | with_reducible apply Pk.t)); exact rfl)))) | ((with_reducible apply t_nx F28.k); exact rfl; exact rfl) | with_reducible apply m_seq | (with_reducible apply m_reg mix) | with_reducible apply m_block | ((with_reducible apply m_ct); exact rfl) | ((with_reducible apply m_cf); exact rfl) | ((with_reducible apply m_skn); exact rfl) | ((with_reducible apply m_exn); exact rfl)))
  refine t_spl 6 rfl (fun q1 => ?_) (fun q1 => ?_)
  · (repeat (first | ((with_reducible apply t_run); exact rfl) | ((with_reducible apply t_p); exact rfl; exact rfl) | ((with_reducible apply t_gr); exact rfl) | ((with_reducible apply t_ge); exact rfl) | ((with_reducible apply t_ld); exact rfl; exact rfl; (repeat (first | with_reducible exact Pk.h | with_reducible apply Pk.t)); exact rfl) | ((with_reducible apply t_st); exact rfl; exact rfl; exact rfl; (repeat (first | with_reducible exact Pk.h | with_reducible apply Pk.t)); exact rfl; exact rfl; exact Nat.le_of_ble_eq_true rfl; exact rfl; (repeat (first | apply rk_nil | (apply rk_skip; exact rfl) | (apply rk_ld; exact rfl; (repeat (first | with_reducible exact Pk.h | with_reducible apply Pk.t)); exact rfl)))) | ((with_reducible apply t_nx F28.k); exact rfl; exact rfl) | with_reducible apply m_seq | (with_reducible apply m_reg mix) | with_reducible apply m_block | ((with_reducible apply m_ct); exact rfl) | ((with_reducible apply m_cf); exact rfl) | ((with_reducible apply m_skn); exact rfl) | ((with_reducible apply m_exn); exact rfl)))
    have q1' : decide (1 ≤ (s.size : Int)) = true := by simpa using q1
    apply m_ret
    · rfl
    · (repeat (first | apply rs_nil | (apply rs_tmp; exact rfl) | (apply rs_cell; exact rfl; (repeat (first | with_reducible exact Pk.h | with_reducible apply Pk.t)); exact rfl)))
    · exact ⟨(by simp only [keyR, q1']; rfl), rfl⟩
    · exact (by repeat (first | apply Sx.nil | apply Pk.h | apply Sx.cons | apply Pk.t))
  · (repeat (first | ((with_reducible apply t_run); exact rfl) | ((with_reducible apply t_p); exact rfl; exact rfl) | ((with_reducible apply t_gr); exact rfl) | ((with_reducible apply t_ge); exact rfl) | ((with_reducible apply t_ld); exact rfl; exact rfl; (repeat (first | with_reducible exact Pk.h | with_reducible apply Pk.t)); exact rfl) | ((with_reducible apply t_st); exact rfl; exact rfl; exact rfl; (repeat (first | with_reducible exact Pk.h | with_reducible apply Pk.t)); exact rfl; exact rfl; exact Nat.le_of_ble_eq_true rfl; exact rfl; (repeat (first | apply rk_nil | (apply rk_skip; exact rfl) | (apply rk_ld; exact rfl; (repeat (first | with_reducible exact Pk.h | with_reducible apply Pk.t)); exact rfl)))) | ((with_reducible apply t_nx F28.k); exact rfl; exact rfl) | with_reducible apply m_seq | (with_reducible apply m_reg mix) | with_reducible apply m_block | ((with_reducible apply m_ct); exact rfl) | ((with_reducible apply m_cf); exact rfl) | ((with_reducible apply m_skn); exact rfl) | ((with_reducible apply m_exn); exact rfl)))
    have q1' : decide (1 ≤ (s.size : Int)) = false := by simpa using q1
    apply m_ret
    · rfl
    · (repeat (first | apply rs_nil | (apply rs_tmp; exact rfl) | (apply rs_cell; exact rfl; (repeat (first | with_reducible exact Pk.h | with_reducible apply Pk.t)); exact rfl)))
    · exact ⟨(by simp only [keyR, q1']; rfl), rfl⟩
    · exact (by repeat (first | apply Sx.nil | apply Pk.h | apply Sx.cons | apply Pk.t))

theorem nan64 (a : Int) : Fsp Try.prog 69 [.int .u64 a] [] fun u aa' => u = .bool false ∧ aa' = [] := by
  refine spec_of F69.ok rfl fun gl X => ?_
  dsimp only [List.cons_append, List.nil_append]
  (repeat (first | ((with_reducible apply t_run); exact rfl) | ((with_reducible apply t_p); exact rfl; exact rfl) | ((with_reducible apply t_gr); exact rfl) | ((with_reducible apply t_ge); exact rfl) | ((with_reducible apply t_ld); exact rfl; exact rfl; (repeat (first | with_reducible exact Pk.h | with_reducible apply Pk.t)); exact rfl) | ((with_reducible apply t_st); exact rfl; exact rfl; exact rfl; (repeat (first | with_reducible exact Pk.h | with_reducible apply Pk.t)); exact rfl; exact rfl; exact Nat.le_of_ble_eq_true rfl; exact rfl; (repeat (first | apply rk_nil | (apply rk_skip; exact rfl) | (apply rk_ld; exact rfl; (repeat (first | with_reducible exact Pk.h | with_reducible apply Pk.t)); exact rfl)))) | ((with_reducible apply t_nx F69.k); exact rfl; exact rfl) | with_reducible apply m_seq | (with_reducible apply m_reg mix) | with_reducible apply m_block | ((with_reducible apply m_ct); exact rfl) | ((with_reducible apply m_cf); exact rfl) | ((with_reducible apply m_skn); exact rfl) | ((with_reducible apply m_exn); exact rfl)))
  apply m_ret
  · rfl
  · (repeat (first | apply rs_nil | (apply rs_tmp; exact rfl) | (apply rs_cell; exact rfl; (repeat (first | with_reducible exact Pk.h | with_reducible apply Pk.t)); exact rfl)))
  · exact ⟨by simp [mkRes], rfl⟩
  · exact (by repeat (first | apply Sx.nil | apply Pk.h | apply Sx.cons | apply Pk.t))
theorem nan32 (a : Int) : Fsp Try.prog 70 [.int .u32 a] [] fun u aa' => u = .bool false ∧ aa' = [] := by
  refine spec_of F70.ok rfl fun gl X => ?_
  dsimp only [List.cons_append, List.nil_append]
  (repeat (first | ((with_reducible apply t_run); exact rfl) | ((with_reducible apply t_p); exact rfl; exact rfl) | ((with_reducible apply t_gr); exact rfl) | ((with_reducible apply t_ge); exact rfl) | ((with_reducible apply t_ld); exact rfl; exact rfl; (repeat (first | with_reducible exact Pk.h | with_reducible apply Pk.t)); exact rfl) | ((with_reducible apply t_st); exact rfl; exact rfl; exact rfl; (repeat (first | with_reducible exact Pk.h | with_reducible apply Pk.t)); exact rfl; exact rfl; exact Nat.le_of_ble_eq_true rfl; exact rfl; (repeat (first | apply rk_nil | (apply rk_skip; exact rfl) | (apply rk_ld; exact rfl; (repeat (first | with_reducible exact Pk.h | with_reducible apply Pk.t)); exact rfl)))) | ((with_reducible apply t_nx F70.k); exact rfl; exact rfl) | with_reducible apply m_seq | (with_reducible apply m_reg mix) | with_reducible apply m_block | ((with_reducible apply m_ct); exact rfl) | ((with_reducible apply m_cf); exact rfl) | ((with_reducible apply m_skn); exact rfl) | ((with_reducible apply m_exn); exact rfl)))
  apply m_ret
  · rfl
  · (repeat (first | apply rs_nil | (apply rs_tmp; exact rfl) | (apply rs_cell; exact rfl; (repeat (first | with_reducible exact Pk.h | with_reducible apply Pk.t)); exact rfl)))
  · exact ⟨by simp [mkRes], rfl⟩
  · exact (by repeat (first | apply Sx.nil | apply Pk.h | apply Sx.cons | apply Pk.t))
def cmpI (a b : Int) : Int := if a < b then -1 else if b < a then 1 else 0
theorem cmp64 (a b : Int) : Fsp Try.prog 54 [.int .u64 a, .int .u64 b] [] fun u aa' => u = .int .i64 (cmpI a b) ∧ aa' = [] := by
  refine spec_of F54.ok rfl fun gl X => ?_
  dsimp only [List.cons_append, List.nil_append]
  (repeat (first | ((with_reducible apply t_run); exact rfl) | ((with_reducible apply t_p); exact rfl; exact rfl) | ((with_reducible apply t_gr); exact rfl) | ((with_reducible apply t_ge); exact rfl) | ((with_reducible apply t_ld); exact rfl; exact rfl; (repeat (first | with_reducible exact Pk.h | with_reducible apply Pk.t)); exact rfl) | ((with_reducible apply t_st); exact rfl; exact rfl; exact rfl; (repeat (first | with_reducible exact Pk.h | with_reducible apply Pk.t)); exact rfl; exact rfl; exact Nat.le_of_ble_eq_true rfl; exact rfl; (repeat (first | apply rk_nil | (apply rk_skip; exact rfl) | (apply rk_ld; exact rfl; (repeat (first | with_reducible exact Pk.h | with_reducible apply Pk.t)); exact rfl)))) | ((with_reducible apply t_nx F54.k); exact rfl; exact rfl) | with_reducible apply m_seq | (with_reducible apply m_reg mix) | with_reducible apply m_block | ((with_reducible apply m_ct); exact rfl) | ((with_reducible apply m_cf); exact rfl) | ((with_reducible apply m_skn); exact rfl) | ((with_reducible apply m_exn); exact rfl)))
  refine t_cl rfl rfl (nan64 a) (by repeat (first | apply Sx.nil | apply Pk.h | apply Sx.cons | apply Pk.t)) ?_
  rintro _ _ ⟨rfl, rfl⟩
  refine ⟨?_, ?_⟩ <;> (try dsimp only [List.cons_append, List.nil_append])
  · (repeat (first | apply rk_nil | (apply rk_skip; exact rfl) | (apply rk_ld; exact rfl; (repeat (first | with_reducible exact Pk.h | with_reducible apply Pk.t)); exact rfl)))
  (repeat (first | ((with_reducible apply t_run); exact rfl) | ((with_reducible apply t_p); exact rfl; exact rfl) | ((with_reducible apply t_gr); exact rfl) | ((with_reducible apply t_ge); exact rfl) | ((with_reducible apply t_ld); exact rfl; exact rfl; (repeat (first | with_reducible exact Pk.h | with_reducible apply Pk.t)); exact rfl) | ((with_reducible apply t_st); exact rfl; exact rfl; exact rfl; (repeat (first | with_reducible exact Pk.h | with_reducible apply Pk.t)); exact rfl; exact rfl; exact Nat.le_of_ble_eq_true rfl; exact rfl; (repeat (first | apply rk_nil | (apply rk_skip; exact rfl) | (apply rk_ld; exact rfl; (repeat (first | with_reducible exact Pk.h | with_reducible apply Pk.t)); exact rfl)))) | ((with_reducible apply t_nx F54.k); exact rfl; exact rfl) | with_reducible apply m_seq | (with_reducible apply m_reg mix) | with_reducible apply m_block | ((with_reducible apply m_ct); exact rfl) | ((with_reducible apply m_cf); exact rfl) | ((with_reducible apply m_skn); exact rfl) | ((with_reducible apply m_exn); exact rfl)))
  refine t_cl rfl rfl (nan64 b) (by repeat (first | apply Sx.nil | apply Pk.h | apply Sx.cons | apply Pk.t)) ?_
  rintro _ _ ⟨rfl, rfl⟩
  refine ⟨?_, ?_⟩ <;> (try dsimp only [List.cons_append, List.nil_append])
  · (repeat (first | apply rk_nil | (apply rk_skip; exact rfl) | (apply rk_ld; exact rfl; (repeat (first | with_reducible exact Pk.h | with_reducible apply Pk.t)); exact rfl)))
  (repeat (first | ((with_reducible apply t_run); exact rfl) | ((with_reducible apply t_p); exact rfl; exact rfl) | ((with_reducible apply t_gr); exact rfl) | ((with_reducible apply t_ge); exact rfl) | ((with_reducible apply t_ld); exact rfl; exact rfl; (repeat (first | with_reducible exact Pk.h | with_reducible apply Pk.t)); exact rfl) | ((with_reducible apply t_st); exact rfl; exact rfl; exact rfl; (repeat (first | with_reducible exact Pk.h | with_reducible apply Pk.t)); exact rfl; exact rfl; exact Nat.le_of_ble_eq_true rfl; exact rfl; (repeat (first | apply rk_nil | (apply rk_skip; exact rfl) | (apply rk_ld; exact rfl; (repeat (first | with_reducible exact Pk.h | with_reducible apply Pk.t)); exact rfl)))) | ((with_reducible apply t_nx F54.k); exact rfl; exact rfl) | with_reducible apply m_seq | (with_reducible apply m_reg mix) | with_reducible apply m_block | ((with_reducible apply m_ct); exact rfl) | ((with_reducible apply m_cf); exact rfl) | ((with_reducible apply m_skn); exact rfl) | ((with_reducible apply m_exn); exact rfl)))
  refine m_cond rfl (fun h => ?_) (fun h => ?_)
  · (repeat (first | ((with_reducible apply t_run); exact rfl) | ((with_reducible apply t_p); exact rfl; exact rfl) | ((with_reducible apply t_gr); exact rfl) | ((with_reducible apply t_ge); exact rfl) | ((with_reducible apply t_ld); exact rfl; exact rfl; (repeat (first | with_reducible exact Pk.h | with_reducible apply Pk.t)); exact rfl) | ((with_reducible apply t_st); exact rfl; exact rfl; exact rfl; (repeat (first | with_reducible exact Pk.h | with_reducible apply Pk.t)); exact rfl; exact rfl; exact Nat.le_of_ble_eq_true rfl; exact rfl; (repeat (first | apply rk_nil | (apply rk_skip; exact rfl) | (apply rk_ld; exact rfl; (repeat (first | with_reducible exact Pk.h | with_reducible apply Pk.t)); exact rfl)))) | ((with_reducible apply t_nx F54.k); exact rfl; exact rfl) | with_reducible apply m_seq | (with_reducible apply m_reg mix) | with_reducible apply m_block | ((with_reducible apply m_ct); exact rfl) | ((with_reducible apply m_cf); exact rfl) | ((with_reducible apply m_skn); exact rfl) | ((with_reducible apply m_exn); exact rfl)))
    apply m_ret
    · rfl
    · (repeat (first | apply rs_nil | (apply rs_tmp; exact rfl) | (apply rs_cell; exact rfl; (repeat (first | with_reducible exact Pk.h | with_reducible apply Pk.t)); exact rfl)))
    · exact ⟨by simp [cmpI, of_decide_eq_true h, mkRes], rfl⟩
    · exact (by repeat (first | apply Sx.nil | apply Pk.h | apply Sx.cons | apply Pk.t))
  · (repeat (first | ((with_reducible apply t_run); exact rfl) | ((with_reducible apply t_p); exact rfl; exact rfl) | ((with_reducible apply t_gr); exact rfl) | ((with_reducible apply t_ge); exact rfl) | ((with_reducible apply t_ld); exact rfl; exact rfl; (repeat (first | with_reducible exact Pk.h | with_reducible apply Pk.t)); exact rfl) | ((with_reducible apply t_st); exact rfl; exact rfl; exact rfl; (repeat (first | with_reducible exact Pk.h | with_reducible apply Pk.t)); exact rfl; exact rfl; exact Nat.le_of_ble_eq_true rfl; exact rfl; (repeat (first | apply rk_nil | (apply rk_skip; exact rfl) | (apply rk_ld; exact rfl; (repeat (first | with_reducible exact Pk.h | with_reducible apply Pk.t)); exact rfl)))) | ((with_reducible apply t_nx F54.k); exact rfl; exact rfl) | with_reducible apply m_seq | (with_reducible apply m_reg mix) | with_reducible apply m_block | ((with_reducible apply m_ct); exact rfl) | ((with_reducible apply m_cf); exact rfl) | ((with_reducible apply m_skn); exact rfl) | ((with_reducible apply m_exn); exact rfl)))
    refine m_cond rfl (fun h2 => ?_) (fun h2 => ?_)
    · (repeat (first | ((with_reducible apply t_run); exact rfl) | ((with_reducible apply t_p); exact rfl; exact rfl) | ((with_reducible apply t_gr); exact rfl) | ((with_reducible apply t_ge); exact rfl) | ((with_reducible apply t_ld); exact rfl; exact rfl; (repeat (first | with_reducible exact Pk.h | with_reducible apply Pk.t)); exact rfl) | ((with_reducible apply t_st); exact rfl; exact rfl; exact rfl; (repeat (first | with_reducible exact Pk.h | with_reducible apply Pk.t)); exact rfl; exact rfl; exact Nat.le_of_ble_eq_true rfl; exact rfl; (repeat (first | apply rk_nil | (apply rk_skip; exact rfl) | (apply rk_ld; exact rfl; (repeat (first | with_reducible exact Pk.h | with_reducible apply Pk.t)); exact rfl)))) | ((with_reducible apply t_nx F54.k); exact rfl; exact rfl) | with_reducible apply m_seq | (with_reducible apply m_reg mix) | with_reducible apply m_block | ((with_reducible apply m_ct); exact rfl) | ((with_reducible apply m_cf); exact rfl) | ((with_reducible apply m_skn); exact rfl) | ((with_reducible apply m_exn); exact rfl)))
      apply m_ret
      · rfl
      · (repeat (first | apply rs_nil | (apply rs_tmp; exact rfl) | (apply rs_cell; exact rfl; (repeat (first | with_reducible exact Pk.h | with_reducible apply Pk.t)); exact rfl)))
      · exact ⟨by simp [cmpI, of_decide_eq_false h, of_decide_eq_true h2, mkRes], rfl⟩
      · exact (by repeat (first | apply Sx.nil | apply Pk.h | apply Sx.cons | apply Pk.t))
    · (repeat (first | ((with_reducible apply t_run); exact rfl) | ((with_reducible apply t_p); exact rfl; exact rfl) | ((with_reducible apply t_gr); exact rfl) | ((with_reducible apply t_ge); exact rfl) | ((with_reducible apply t_ld); exact rfl; exact rfl; (repeat (first | with_reducible exact Pk.h | with_reducible apply Pk.t)); exact rfl) | ((with_reducible apply t_st); exact rfl; exact rfl; exact rfl; (repeat (first | with_reducible exact Pk.h | with_reducible apply Pk.t)); exact rfl; exact rfl; exact Nat.le_of_ble_eq_true rfl; exact rfl; (repeat (first | apply rk_nil | (apply rk_skip; exact rfl) | (apply rk_ld; exact rfl; (repeat (first | with_reducible exact Pk.h | with_reducible apply Pk.t)); exact rfl)))) | ((with_reducible apply t_nx F54.k); exact rfl; exact rfl) | with_reducible apply m_seq | (with_reducible apply m_reg mix) | with_reducible apply m_block | ((with_reducible apply m_ct); exact rfl) | ((with_reducible apply m_cf); exact rfl) | ((with_reducible apply m_skn); exact rfl) | ((with_reducible apply m_exn); exact rfl)))
      apply m_ret
      · rfl
      · (repeat (first | apply rs_nil | (apply rs_tmp; exact rfl) | (apply rs_cell; exact rfl; (repeat (first | with_reducible exact Pk.h | with_reducible apply Pk.t)); exact rfl)))
      · exact ⟨by simp [cmpI, of_decide_eq_false h, of_decide_eq_false h2, mkRes], rfl⟩
      · exact (by repeat (first | apply Sx.nil | apply Pk.h | apply Sx.cons | apply Pk.t))
theorem cmp32 (a b : Int) : Fsp Try.prog 55 [.int .u32 a, .int .u32 b] [] fun u aa' => u = .int .i64 (cmpI a b) ∧ aa' = [] := by
  refine spec_of F55.ok rfl fun gl X => ?_
  dsimp only [List.cons_append, List.nil_append]
  (repeat (first | ((with_reducible apply t_run); exact rfl) | ((with_reducible apply t_p); exact rfl; exact rfl) | ((with_reducible apply t_gr); exact rfl) | ((with_reducible apply t_ge); exact rfl) | ((with_reducible apply t_ld); exact rfl; exact rfl; (repeat (first | with_reducible exact Pk.h | with_reducible apply Pk.t)); exact rfl) | ((with_reducible apply t_st); exact rfl; exact rfl; exact rfl; (repeat (first | with_reducible exact Pk.h | with_reducible apply Pk.t)); exact rfl; exact rfl; exact Nat.le_of_ble_eq_true rfl; exact rfl; (repeat (first | apply rk_nil | (apply rk_skip; exact rfl) | (apply rk_ld; exact rfl; (repeat (first | with_reducible exact Pk.h | with_reducible apply Pk.t)); exact rfl)))) | ((with_reducible apply t_nx F55.k); exact rfl; exact rfl) | with_reducible apply m_seq | (with_reducible apply m_reg mix) | with_reducible apply m_block | ((with_reducible apply m_ct); exact rfl) | ((with_reducible apply m_cf); exact rfl) | ((with_reducible apply m_skn); exact rfl) | ((with_reducible apply m_exn); exact rfl)))
  refine t_cl rfl rfl (nan32 a) (by repeat (first | apply Sx.nil | apply Pk.h | apply Sx.cons | apply Pk.t)) ?_
  rintro _ _ ⟨rfl, rfl⟩
  refine ⟨?_, ?_⟩ <;> (try dsimp only [List.cons_append, List.nil_append])
  · (repeat (first | apply rk_nil | (apply rk_skip; exact rfl) | (apply rk_ld; exact rfl; (repeat (first | with_reducible exact Pk.h | with_reducible apply Pk.t)); exact rfl)))
  (repeat (first | ((with_reducible apply t_run); exact rfl) | ((with_reducible apply t_p); exact rfl; exact rfl) | ((with_reducible apply t_gr); exact rfl) | ((with_reducible apply t_ge); exact rfl) | ((with_reducible apply t_ld); exact rfl; exact rfl; (repeat (first | with_reducible exact Pk.h | with_reducible apply Pk.t)); exact rfl) | ((with_reducible apply t_st); exact rfl; exact rfl; exact rfl; (repeat (first | with_reducible exact Pk.h | with_reducible apply Pk.t)); exact rfl; exact rfl; exact Nat.le_of_ble_eq_true rfl; exact rfl; (repeat (first | apply rk_nil | (apply rk_skip; exact rfl) | (apply rk_ld; exact rfl; (repeat (first | with_reducible exact Pk.h | with_reducible apply Pk.t)); exact rfl)))) | ((with_reducible apply t_nx F55.k); exact rfl; exact rfl) | with_reducible apply m_seq | (with_reducible apply m_reg mix) | with_reducible apply m_block | ((with_reducible apply m_ct); exact rfl) | ((with_reducible apply m_cf); exact rfl) | ((with_reducible apply m_skn); exact rfl) | ((with_reducible apply m_exn); exact rfl)))
  refine t_cl rfl rfl (nan32 b) (by repeat (first | apply Sx.nil | apply Pk.h | apply Sx.cons | apply Pk.t)) ?_
  rintro _ _ ⟨rfl, rfl⟩
  refine ⟨?_, ?_⟩ <;> (try dsimp only [List.cons_append, List.nil_append])
  · (repeat (first | apply rk_nil | (apply rk_skip; exact rfl) | (apply rk_ld; exact rfl; (repeat (first | with_reducible exact Pk.h | with_reducible apply Pk.t)); exact rfl)))
  (repeat (first | ((with_reducible apply t_run); exact rfl) | ((with_reducible apply t_p); exact rfl; exact rfl) | ((with_reducible apply t_gr); exact rfl) | ((with_reducible apply t_ge); exact rfl) | ((with_reducible apply t_ld); exact rfl; exact rfl; (repeat (first | with_reducible exact Pk.h | with_reducible apply Pk.t)); exact rfl) | ((with_reducible apply t_st); exact rfl; exact rfl; exact rfl; (repeat (first | with_reducible exact Pk.h | with_reducible apply Pk.t)); exact rfl; exact rfl; exact Nat.le_of_ble_eq_true rfl; exact rfl; (repeat (first | apply rk_nil | (apply rk_skip; exact rfl) | (apply rk_ld; exact rfl; (repeat (first | with_reducible exact Pk.h | with_reducible apply Pk.t)); exact rfl)))) | ((with_reducible apply t_nx F55.k); exact rfl; exact rfl) | with_reducible apply m_seq | (with_reducible apply m_reg mix) | with_reducible apply m_block | ((with_reducible apply m_ct); exact rfl) | ((with_reducible apply m_cf); exact rfl) | ((with_reducible apply m_skn); exact rfl) | ((with_reducible apply m_exn); exact rfl)))
  refine m_cond rfl (fun h => ?_) (fun h => ?_)
  · (repeat (first | ((with_reducible apply t_run); exact rfl) | ((with_reducible apply t_p); exact rfl; exact rfl) | ((with_reducible apply t_gr); exact rfl) | ((with_reducible apply t_ge); exact rfl) | ((with_reducible apply t_ld); exact rfl; exact rfl; (repeat (first | with_reducible exact Pk.h | with_reducible apply Pk.t)); exact rfl) | ((with_reducible apply t_st); exact rfl; exact rfl; exact rfl; (repeat (first | with_reducible exact Pk.h | with_reducible apply Pk.t)); exact rfl; exact rfl; exact Nat.le_of_ble_eq_true rfl; exact rfl; (repeat (first | apply rk_nil | (apply rk_skip; exact rfl) | (apply rk_ld; exact rfl; (repeat (first | with_reducible exact Pk.h | with_reducible apply Pk.t)); exact rfl)))) | ((with_reducible apply t_nx F55.k); exact rfl; exact rfl) | with_reducible apply m_seq | (with_reducible apply m_reg mix) | with_reducible apply m_block | ((with_reducible apply m_ct); exact rfl) | ((with_reducible apply m_cf); exact rfl) | ((with_reducible apply m_skn); exact rfl) | ((with_reducible apply m_exn); exact rfl)))
    apply m_ret
    · rfl
    · (repeat (first | apply rs_nil | (apply rs_tmp; exact rfl) | (apply rs_cell; exact rfl; (repeat (first | with_reducible exact Pk.h | with_reducible apply Pk.t)); exact rfl)))
    · exact ⟨by simp [cmpI, of_decide_eq_true h, mkRes], rfl⟩
    · exact (by repeat (first | apply Sx.nil | apply Pk.h | apply Sx.cons | apply Pk.t))
  · (repeat (first | ((with_reducible apply t_run); exact rfl) | ((with_reducible apply t_p); exact rfl; exact rfl) | ((with_reducible apply t_gr); exact rfl) | ((with_reducible apply t_ge); exact rfl) | ((with_reducible apply t_ld); exact rfl; exact rfl; (repeat (first | with_reducible exact Pk.h | with_reducible apply Pk.t)); exact rfl) | ((with_reducible apply t_st); exact rfl; exact rfl; exact rfl; (repeat (first | with_reducible exact Pk.h | with_reducible apply Pk.t)); exact rfl; exact rfl; exact Nat.le_of_ble_eq_true rfl; exact rfl; (repeat (first | apply rk_nil | (apply rk_skip; exact rfl) | (apply rk_ld; exact rfl; (repeat (first | with_reducible exact Pk.h | with_reducible apply Pk.t)); exact rfl)))) | ((with_reducible apply t_nx F55.k); exact rfl; exact rfl) | with_reducible apply m_seq | (with_reducible apply m_reg mix) | with_reducible apply m_block | ((with_reducible apply m_ct); exact rfl) | ((with_reducible apply m_cf); exact rfl) | ((with_reducible apply m_skn); exact rfl) | ((with_reducible apply m_exn); exact rfl)))
    refine m_cond rfl (fun h2 => ?_) (fun h2 => ?_)
    · (repeat (first | ((with_reducible apply t_run); exact rfl) | ((with_reducible apply t_p); exact rfl; exact rfl) | ((with_reducible apply t_gr); exact rfl) | ((with_reducible apply t_ge); exact rfl) | ((with_reducible apply t_ld); exact rfl; exact rfl; (repeat (first | with_reducible exact Pk.h | with_reducible apply Pk.t)); exact rfl) | ((with_reducible apply t_st); exact rfl; exact rfl; exact rfl; (repeat (first | with_reducible exact Pk.h | with_reducible apply Pk.t)); exact rfl; exact rfl; exact Nat.le_of_ble_eq_true rfl; exact rfl; (repeat (first | apply rk_nil | (apply rk_skip; exact rfl) | (apply rk_ld; exact rfl; (repeat (first | with_reducible exact Pk.h | with_reducible apply Pk.t)); exact rfl)))) | ((with_reducible apply t_nx F55.k); exact rfl; exact rfl) | with_reducible apply m_seq | (with_reducible apply m_reg mix) | with_reducible apply m_block | ((with_reducible apply m_ct); exact rfl) | ((with_reducible apply m_cf); exact rfl) | ((with_reducible apply m_skn); exact rfl) | ((with_reducible apply m_exn); exact rfl)))
      apply m_ret
      · rfl
      · (repeat (first | apply rs_nil | (apply rs_tmp; exact rfl) | (apply rs_cell; exact rfl; (repeat (first | with_reducible exact Pk.h | with_reducible apply Pk.t)); exact rfl)))
      · exact ⟨by simp [cmpI, of_decide_eq_false h, of_decide_eq_true h2, mkRes], rfl⟩
      · exact (by repeat (first | apply Sx.nil | apply Pk.h | apply Sx.cons | apply Pk.t))
    · (repeat (first | ((with_reducible apply t_run); exact rfl) | ((with_reducible apply t_p); exact rfl; exact rfl) | ((with_reducible apply t_gr); exact rfl) | ((with_reducible apply t_ge); exact rfl) | ((with_reducible apply t_ld); exact rfl; exact rfl; (repeat (first | with_reducible exact Pk.h | with_reducible apply Pk.t)); exact rfl) | ((with_reducible apply t_st); exact rfl; exact rfl; exact rfl; (repeat (first | with_reducible exact Pk.h | with_reducible apply Pk.t)); exact rfl; exact rfl; exact Nat.le_of_ble_eq_true rfl; exact rfl; (repeat (first | apply rk_nil | (apply rk_skip; exact rfl) | (apply rk_ld; exact rfl; (repeat (first | with_reducible exact Pk.h | with_reducible apply Pk.t)); exact rfl)))) | ((with_reducible apply t_nx F55.k); exact rfl; exact rfl) | with_reducible apply m_seq | (with_reducible apply m_reg mix) | with_reducible apply m_block | ((with_reducible apply m_ct); exact rfl) | ((with_reducible apply m_cf); exact rfl) | ((with_reducible apply m_skn); exact rfl) | ((with_reducible apply m_exn); exact rfl)))
      apply m_ret
      · rfl
      · (repeat (first | apply rs_nil | (apply rs_tmp; exact rfl) | (apply rs_cell; exact rfl; (repeat (first | with_reducible exact Pk.h | with_reducible apply Pk.t)); exact rfl)))
      · exact ⟨by simp [cmpI, of_decide_eq_false h, of_decide_eq_false h2, mkRes], rfl⟩
      · exact (by repeat (first | apply Sx.nil | apply Pk.h | apply Sx.cons | apply Pk.t))

theorem wrap_nat {i : Nat} (h : i < 9223372036854775807) : IntKind.i64.wrap ((i : Int) + 1) = ((i + 1 : Nat) : Int) := by
  simp only [IntKind.wrap, IntKind.bits, IntKind.signed]; simp; omega
/-- the first that is not nought -/
def orI : List Int → Int
  | [] => 0
  | x :: xs => if x = 0 then orI xs else x
theorem orI_drop {xs : List Int} {i : Nat} (hi : i < xs.length) : orI (xs.drop i) = if xs[i] = 0 then orI (xs.drop (i + 1)) else xs[i] := by
  rw [List.drop_eq_getElem_cons hi]; rfl
def ints (xs : List Int) : List (List Value) := xs.map fun x => [.int .i64 x]
theorem Or_spec (R : HP) (v : Value) (xs : List Int) (hv : RdS R 1 v (ints xs)) (hl : xs.length < 9223372036854775808) : Fsp Try.prog 53 [v] [R] fun u aa' => u = .int .i64 (orI xs) ∧ aa' = [R] := by
  obtain ⟨a, c, rfl⟩ := hv.len
  have hlen : (ints xs).length = xs.length := by simp [ints]
  rw [hlen] at hv ⊢
  refine spec_of F53.ok rfl fun gl X => ?_
  dsimp only [List.cons_append, List.nil_append]
  (repeat (first | ((with_reducible apply t_run); exact rfl) | ((with_reducible apply t_p); exact rfl; exact rfl) | ((with_reducible apply t_gr); exact rfl) | ((with_reducible apply t_ge); exact rfl) | ((with_reducible apply t_ld); exact rfl; exact rfl; (repeat (first | with_reducible exact Pk.h | with_reducible apply Pk.t)); exact rfl) | ((with_reducible apply t_st); exact rfl; exact rfl; exact rfl; (repeat (first | with_reducible exact Pk.h | with_reducible apply Pk.t)); exact rfl; exact rfl; exact Nat.le_of_ble_eq_true rfl; exact rfl; (repeat (first | apply rk_nil | (apply rk_skip; exact rfl) | (apply rk_ld; exact rfl; (repeat (first | with_reducible exact Pk.h | with_reducible apply Pk.t)); exact rfl)))) | ((with_reducible apply t_nx F53.k); exact rfl; exact rfl) | with_reducible apply m_seq | (with_reducible apply m_reg mix) | with_reducible apply m_block | ((with_reducible apply m_ct); exact rfl) | ((with_reducible apply m_cf); exact rfl) | ((with_reducible apply m_skn); exact rfl) | ((with_reducible apply m_exn); exact rfl)))
  refine m_lp (α := Nat) (fun i => [(8, .int .i64 (i : Nat)), (6, .slice a xs.length c), (7, .int .i64 (xs.length : Nat)), (3, .int .i64 0)]) (fun _ => [R, X]) (fun i => i ≤ xs.length ∧ orI (xs.drop i) = orI xs) (fun i => xs.length - i) ?_ 0 ⟨by omega, rfl⟩ [8, 6, 7, 3] rfl (by repeat (first | apply Sx.nil | apply Pk.h | apply Sx.cons | apply Pk.t))
  rintro i ⟨hi, ho⟩
  (repeat (first | ((with_reducible apply t_run); exact rfl) | ((with_reducible apply t_p); exact rfl; exact rfl) | ((with_reducible apply t_gr); exact rfl) | ((with_reducible apply t_ge); exact rfl) | ((with_reducible apply t_ld); exact rfl; exact rfl; (repeat (first | with_reducible exact Pk.h | with_reducible apply Pk.t)); exact rfl) | ((with_reducible apply t_st); exact rfl; exact rfl; exact rfl; (repeat (first | with_reducible exact Pk.h | with_reducible apply Pk.t)); exact rfl; exact rfl; exact Nat.le_of_ble_eq_true rfl; exact rfl; (repeat (first | apply rk_nil | (apply rk_skip; exact rfl) | (apply rk_ld; exact rfl; (repeat (first | with_reducible exact Pk.h | with_reducible apply Pk.t)); exact rfl)))) | ((with_reducible apply t_nx F53.k); exact rfl; exact rfl) | with_reducible apply m_seq | (with_reducible apply m_reg mix) | with_reducible apply m_block | ((with_reducible apply m_ct); exact rfl) | ((with_reducible apply m_cf); exact rfl) | ((with_reducible apply m_skn); exact rfl) | ((with_reducible apply m_exn); exact rfl)))
  refine m_cond rfl (fun q => ?_) (fun q => ?_)
  · have hi' : i < xs.length := by have := of_decide_eq_true q; omega
    obtain ⟨b, o, rfl, _⟩ := hv.ptr (by rw [hlen]; omega)
    (repeat (first | ((with_reducible apply t_run); exact rfl) | ((with_reducible apply t_p); exact rfl; exact rfl) | ((with_reducible apply t_gr); exact rfl) | ((with_reducible apply t_ge); exact rfl) | ((with_reducible apply t_ld); exact rfl; exact rfl; (repeat (first | with_reducible exact Pk.h | with_reducible apply Pk.t)); exact rfl) | ((with_reducible apply t_st); exact rfl; exact rfl; exact rfl; (repeat (first | with_reducible exact Pk.h | with_reducible apply Pk.t)); exact rfl; exact rfl; exact Nat.le_of_ble_eq_true rfl; exact rfl; (repeat (first | apply rk_nil | (apply rk_skip; exact rfl) | (apply rk_ld; exact rfl; (repeat (first | with_reducible exact Pk.h | with_reducible apply Pk.t)); exact rfl)))) | ((with_reducible apply t_nx F53.k); exact rfl; exact rfl) | with_reducible apply m_seq | (with_reducible apply m_reg mix) | with_reducible apply m_block | ((with_reducible apply m_ct); exact rfl) | ((with_reducible apply m_cf); exact rfl) | ((with_reducible apply m_skn); exact rfl) | ((with_reducible apply m_exn); exact rfl)))
    refine t_ia i rfl rfl rfl hi' ?_
    refine t_la rfl rfl (R := R) (by repeat (first | with_reducible exact Pk.h | with_reducible apply Pk.t)) (hv.at1 (i := i) (v := .int .i64 xs[i]) (by simp [ints, hi'])) ?_
    (repeat (first | ((with_reducible apply t_run); exact rfl) | ((with_reducible apply t_p); exact rfl; exact rfl) | ((with_reducible apply t_gr); exact rfl) | ((with_reducible apply t_ge); exact rfl) | ((with_reducible apply t_ld); exact rfl; exact rfl; (repeat (first | with_reducible exact Pk.h | with_reducible apply Pk.t)); exact rfl) | ((with_reducible apply t_st); exact rfl; exact rfl; exact rfl; (repeat (first | with_reducible exact Pk.h | with_reducible apply Pk.t)); exact rfl; exact rfl; exact Nat.le_of_ble_eq_true rfl; exact rfl; (repeat (first | apply rk_nil | (apply rk_skip; exact rfl) | (apply rk_ld; exact rfl; (repeat (first | with_reducible exact Pk.h | with_reducible apply Pk.t)); exact rfl)))) | ((with_reducible apply t_nx F53.k); exact rfl; exact rfl) | with_reducible apply m_seq | (with_reducible apply m_reg mix) | with_reducible apply m_block | ((with_reducible apply m_ct); exact rfl) | ((with_reducible apply m_cf); exact rfl) | ((with_reducible apply m_skn); exact rfl) | ((with_reducible apply m_exn); exact rfl)))
    rw [orI_drop hi'] at ho
    refine m_cond rfl (fun q2 => ?_) (fun q2 => ?_)
    · (repeat (first | ((with_reducible apply t_run); exact rfl) | ((with_reducible apply t_p); exact rfl; exact rfl) | ((with_reducible apply t_gr); exact rfl) | ((with_reducible apply t_ge); exact rfl) | ((with_reducible apply t_ld); exact rfl; exact rfl; (repeat (first | with_reducible exact Pk.h | with_reducible apply Pk.t)); exact rfl) | ((with_reducible apply t_st); exact rfl; exact rfl; exact rfl; (repeat (first | with_reducible exact Pk.h | with_reducible apply Pk.t)); exact rfl; exact rfl; exact Nat.le_of_ble_eq_true rfl; exact rfl; (repeat (first | apply rk_nil | (apply rk_skip; exact rfl) | (apply rk_ld; exact rfl; (repeat (first | with_reducible exact Pk.h | with_reducible apply Pk.t)); exact rfl)))) | ((with_reducible apply t_nx F53.k); exact rfl; exact rfl) | with_reducible apply m_seq | (with_reducible apply m_reg mix) | with_reducible apply m_block | ((with_reducible apply m_ct); exact rfl) | ((with_reducible apply m_cf); exact rfl) | ((with_reducible apply m_skn); exact rfl) | ((with_reducible apply m_exn); exact rfl)))
      have q3 : xs[i] ≠ 0 := by simpa using q2
      rw [if_neg q3] at ho
      rw [← ho]
      apply m_ret
      · rfl
      · (repeat (first | apply rs_nil | (apply rs_tmp; exact rfl) | (apply rs_cell; exact rfl; (repeat (first | with_reducible exact Pk.h | with_reducible apply Pk.t)); exact rfl)))
      · exact ⟨rfl, rfl⟩
      · exact (by repeat (first | apply Sx.nil | apply Pk.h | apply Sx.cons | apply Pk.t))
    · have q3 : xs[i] = 0 := by simpa using q2
      rw [if_pos q3] at ho
      (repeat (first | ((with_reducible apply t_run); exact rfl) | ((with_reducible apply t_p); exact rfl; exact rfl) | ((with_reducible apply t_gr); exact rfl) | ((with_reducible apply t_ge); exact rfl) | ((with_reducible apply t_ld); exact rfl; exact rfl; (repeat (first | with_reducible exact Pk.h | with_reducible apply Pk.t)); exact rfl) | ((with_reducible apply t_st); exact rfl; exact rfl; exact rfl; (repeat (first | with_reducible exact Pk.h | with_reducible apply Pk.t)); exact rfl; exact rfl; exact Nat.le_of_ble_eq_true rfl; exact rfl; (repeat (first | apply rk_nil | (apply rk_skip; exact rfl) | (apply rk_ld; exact rfl; (repeat (first | with_reducible exact Pk.h | with_reducible apply Pk.t)); exact rfl)))) | ((with_reducible apply t_nx F53.k); exact rfl; exact rfl) | with_reducible apply m_seq | (with_reducible apply m_reg mix) | with_reducible apply m_block | ((with_reducible apply m_ct); exact rfl) | ((with_reducible apply m_cf); exact rfl) | ((with_reducible apply m_skn); exact rfl) | ((with_reducible apply m_exn); exact rfl)))
      refine t_meet rfl (i + 1) ⟨⟨by omega, ho⟩, by omega⟩ [8, 6, 7, 3] ?_ (by repeat (first | apply Sx.nil | apply Pk.h | apply Sx.cons | apply Pk.t))
      rw [show IntKind.i64.wrap ((i : Int) + 1) = ((i + 1 : Nat) : Int) from wrap_nat (by omega)]
      rfl
  · have hi' : i = xs.length := by have := of_decide_eq_false q; omega
    (repeat (first | ((with_reducible apply t_run); exact rfl) | ((with_reducible apply t_p); exact rfl; exact rfl) | ((with_reducible apply t_gr); exact rfl) | ((with_reducible apply t_ge); exact rfl) | ((with_reducible apply t_ld); exact rfl; exact rfl; (repeat (first | with_reducible exact Pk.h | with_reducible apply Pk.t)); exact rfl) | ((with_reducible apply t_st); exact rfl; exact rfl; exact rfl; (repeat (first | with_reducible exact Pk.h | with_reducible apply Pk.t)); exact rfl; exact rfl; exact Nat.le_of_ble_eq_true rfl; exact rfl; (repeat (first | apply rk_nil | (apply rk_skip; exact rfl) | (apply rk_ld; exact rfl; (repeat (first | with_reducible exact Pk.h | with_reducible apply Pk.t)); exact rfl)))) | ((with_reducible apply t_nx F53.k); exact rfl; exact rfl) | with_reducible apply m_seq | (with_reducible apply m_reg mix) | with_reducible apply m_block | ((with_reducible apply m_ct); exact rfl) | ((with_reducible apply m_cf); exact rfl) | ((with_reducible apply m_skn); exact rfl) | ((with_reducible apply m_exn); exact rfl)))
    subst hi'
    rw [← ho, List.drop_length]
    apply m_ret
    · rfl
    · (repeat (first | apply rs_nil | (apply rs_tmp; exact rfl) | (apply rs_cell; exact rfl; (repeat (first | with_reducible exact Pk.h | with_reducible apply Pk.t)); exact rfl)))
    · exact ⟨rfl, rfl⟩
    · exact (by repeat (first | apply Sx.nil | apply Pk.h | apply Sx.cons | apply Pk.t))

theorem sl116 : slI Try.prog 116 = some (3, 1, 8, [.int .i64 0]) := by kernel_rfl
def Sm.lt (a b : Sm) : Bool := decide (orI [cmpI a.p b.p, cmpI a.l b.l] < 0)
theorem Less_spec (a b : Sm) : Fsp Try.prog 37 [a.V, b.V] [] fun u aa' => u = .bool (a.lt b) ∧ aa' = [] := by
  obtain ⟨p, l⟩ := a
  obtain ⟨p', l'⟩ := b
  refine spec_of F37.ok rfl fun gl X => ?_
  dsimp only [List.cons_append, List.nil_append]
  simp only [Sm.V]
  (repeat (first | ((with_reducible apply t_run); exact rfl) | ((with_reducible apply t_p); exact rfl; exact rfl) | ((with_reducible apply t_gr); exact rfl) | ((with_reducible apply t_ge); exact rfl) | ((with_reducible apply t_ld); exact rfl; exact rfl; (repeat (first | with_reducible exact Pk.h | with_reducible apply Pk.t)); exact rfl) | ((with_reducible apply t_st); exact rfl; exact rfl; exact rfl; (repeat (first | with_reducible exact Pk.h | with_reducible apply Pk.t)); exact rfl; exact rfl; exact Nat.le_of_ble_eq_true rfl; exact rfl; (repeat (first | apply rk_nil | (apply rk_skip; exact rfl) | (apply rk_ld; exact rfl; (repeat (first | with_reducible exact Pk.h | with_reducible apply Pk.t)); exact rfl)))) | ((with_reducible apply t_nx F37.k); exact rfl; exact rfl) | with_reducible apply m_seq | (with_reducible apply m_reg mix) | with_reducible apply m_block | ((with_reducible apply m_ct); exact rfl) | ((with_reducible apply m_cf); exact rfl) | ((with_reducible apply m_skn); exact rfl) | ((with_reducible apply m_exn); exact rfl)))
  refine t_bx rfl rfl rfl fun b1 => ⟨(by (repeat (first | apply rk_nil | (apply rk_skip; exact rfl) | (apply rk_ld; exact rfl; (repeat (first | with_reducible exact Pk.h | with_reducible apply Pk.t)); exact rfl)))), ?_⟩
  try dsimp only [List.cons_append, List.nil_append]
  (repeat (first | ((with_reducible apply t_run); exact rfl) | ((with_reducible apply t_p); exact rfl; exact rfl) | ((with_reducible apply t_gr); exact rfl) | ((with_reducible apply t_ge); exact rfl) | ((with_reducible apply t_ld); exact rfl; exact rfl; (repeat (first | with_reducible exact Pk.h | with_reducible apply Pk.t)); exact rfl) | ((with_reducible apply t_st); exact rfl; exact rfl; exact rfl; (repeat (first | with_reducible exact Pk.h | with_reducible apply Pk.t)); exact rfl; exact rfl; exact Nat.le_of_ble_eq_true rfl; exact rfl; (repeat (first | apply rk_nil | (apply rk_skip; exact rfl) | (apply rk_ld; exact rfl; (repeat (first | with_reducible exact Pk.h | with_reducible apply Pk.t)); exact rfl)))) | ((with_reducible apply t_nx F37.k); exact rfl; exact rfl) | with_reducible apply m_seq | (with_reducible apply m_reg mix) | with_reducible apply m_block | ((with_reducible apply m_ct); exact rfl) | ((with_reducible apply m_cf); exact rfl) | ((with_reducible apply m_skn); exact rfl) | ((with_reducible apply m_exn); exact rfl)))
  refine t_bx rfl rfl rfl fun b2 => ⟨(by (repeat (first | apply rk_nil | (apply rk_skip; exact rfl) | (apply rk_ld; exact rfl; (repeat (first | with_reducible exact Pk.h | with_reducible apply Pk.t)); exact rfl)))), ?_⟩
  try dsimp only [List.cons_append, List.nil_append]
  (repeat (first | ((with_reducible apply t_run); exact rfl) | ((with_reducible apply t_p); exact rfl; exact rfl) | ((with_reducible apply t_gr); exact rfl) | ((with_reducible apply t_ge); exact rfl) | ((with_reducible apply t_ld); exact rfl; exact rfl; (repeat (first | with_reducible exact Pk.h | with_reducible apply Pk.t)); exact rfl) | ((with_reducible apply t_st); exact rfl; exact rfl; exact rfl; (repeat (first | with_reducible exact Pk.h | with_reducible apply Pk.t)); exact rfl; exact rfl; exact Nat.le_of_ble_eq_true rfl; exact rfl; (repeat (first | apply rk_nil | (apply rk_skip; exact rfl) | (apply rk_ld; exact rfl; (repeat (first | with_reducible exact Pk.h | with_reducible apply Pk.t)); exact rfl)))) | ((with_reducible apply t_nx F37.k); exact rfl; exact rfl) | with_reducible apply m_seq | (with_reducible apply m_reg mix) | with_reducible apply m_block | ((with_reducible apply m_ct); exact rfl) | ((with_reducible apply m_cf); exact rfl) | ((with_reducible apply m_skn); exact rfl) | ((with_reducible apply m_exn); exact rfl)))
  refine t_cl rfl rfl (cmp64 p p') (by repeat (first | apply Sx.nil | apply Pk.h | apply Sx.cons | apply Pk.t)) ?_
  rintro _ _ ⟨rfl, rfl⟩
  refine ⟨?_, ?_⟩ <;> (try dsimp only [List.cons_append, List.nil_append])
  · (repeat (first | apply rk_nil | (apply rk_skip; exact rfl) | (apply rk_ld; exact rfl; (repeat (first | with_reducible exact Pk.h | with_reducible apply Pk.t)); exact rfl)))
  refine t_cl rfl rfl (cmp32 l l') (by repeat (first | apply Sx.nil | apply Pk.h | apply Sx.cons | apply Pk.t)) ?_
  rintro _ _ ⟨rfl, rfl⟩
  refine ⟨?_, ?_⟩ <;> (try dsimp only [List.cons_append, List.nil_append])
  · (repeat (first | apply rk_nil | (apply rk_skip; exact rfl) | (apply rk_ld; exact rfl; (repeat (first | with_reducible exact Pk.h | with_reducible apply Pk.t)); exact rfl)))
  refine t_bsl sl116 rfl rfl rfl rfl rfl rfl rfl rfl fun b3 => ⟨(by (repeat (first | apply rk_nil | (apply rk_skip; exact rfl) | (apply rk_ld; exact rfl; (repeat (first | with_reducible exact Pk.h | with_reducible apply Pk.t)); exact rfl)))), ?_⟩
  try dsimp only [List.cons_append, List.nil_append]
  refine t_cl rfl rfl (Or_spec (Cl b3 3 [.int .i64 (cmpI p p'), .int .i64 (cmpI l l')]) (.slice (some ⟨b3, 0, none⟩) 2 2) [cmpI p p', cmpI l l'] (rds_cl (b := b3) (T := 3) (k := 1) (c := 2) (xs := [[.int .i64 (cmpI p p')], [.int .i64 (cmpI l l')]]) (by simp)) (by simp)) (by repeat (first | apply Sx.nil | apply Pk.h | apply Sx.cons | apply Pk.t)) ?_
  rintro _ _ ⟨rfl, rfl⟩
  refine ⟨?_, ?_⟩ <;> (try dsimp only [List.cons_append, List.nil_append])
  · (repeat (first | apply rk_nil | (apply rk_skip; exact rfl) | (apply rk_ld; exact rfl; (repeat (first | with_reducible exact Pk.h | with_reducible apply Pk.t)); exact rfl)))
  (repeat (first | ((with_reducible apply t_run); exact rfl) | ((with_reducible apply t_p); exact rfl; exact rfl) | ((with_reducible apply t_gr); exact rfl) | ((with_reducible apply t_ge); exact rfl) | ((with_reducible apply t_ld); exact rfl; exact rfl; (repeat (first | with_reducible exact Pk.h | with_reducible apply Pk.t)); exact rfl) | ((with_reducible apply t_st); exact rfl; exact rfl; exact rfl; (repeat (first | with_reducible exact Pk.h | with_reducible apply Pk.t)); exact rfl; exact rfl; exact Nat.le_of_ble_eq_true rfl; exact rfl; (repeat (first | apply rk_nil | (apply rk_skip; exact rfl) | (apply rk_ld; exact rfl; (repeat (first | with_reducible exact Pk.h | with_reducible apply Pk.t)); exact rfl)))) | ((with_reducible apply t_nx F37.k); exact rfl; exact rfl) | with_reducible apply m_seq | (with_reducible apply m_reg mix) | with_reducible apply m_block | ((with_reducible apply m_ct); exact rfl) | ((with_reducible apply m_cf); exact rfl) | ((with_reducible apply m_skn); exact rfl) | ((with_reducible apply m_exn); exact rfl)))
  apply m_ret
  · rfl
  · (repeat (first | apply rs_nil | (apply rs_tmp; exact rfl) | (apply rs_cell; exact rfl; (repeat (first | with_reducible exact Pk.h | with_reducible apply Pk.t)); exact rfl)))
  · exact ⟨rfl, rfl⟩
  · exact (by repeat (first | apply Sx.nil | apply Pk.h | apply Sx.cons | apply Pk.t))
end Go.Proofs.Ythcbefkgfhokoaa

/- The latch's small functions. -/
namespace Go.Proofs.Ythcbefkgfhokoaa
open Go Go.Dv
set_option maxRecDepth 100000
attribute [local irreducible] HTh HM En Fsp TrA Cl MpA OwS RdS MpO

def Sm.cells (t : Sm) : List Value := [.int .u64 t.p, .int .u32 t.l]
def Tx.cells (t : Tx) : List Value := [.int .u32 t.c, .int .u32 t.n]
def Wr.cells (w : Wr) : List Value := [.string w.key, .string w.val, .bool w.dead]

def maxS (a b : Sm) : Sm := if a.lt b then b else a
theorem foldl_drop {α β : Type} {f : β → α → β} {xs : List α} {i : Nat} {m : β} (hi : i < xs.length) : (xs.drop i).foldl f m = (xs.drop (i + 1)).foldl f (f m xs[i]) := by
  rw [List.drop_eq_getElem_cons hi]; rfl
theorem Max_spec (R : HP) (v : Value) (xs : List Sm) (hv : RdS R 2 v (xs.map Sm.cells)) (hl : xs.length < 9223372036854775808) : Fsp Try.prog 41 [v] [R] fun u aa' => u = (xs.foldl maxS ⟨0, 0⟩).V ∧ aa' = [R] := by
  obtain ⟨a, c, rfl⟩ := hv.len
  have hlen : (xs.map Sm.cells).length = xs.length := by simp
  rw [hlen] at hv ⊢
  refine spec_of F41.ok rfl fun gl X => ?_
  dsimp only [List.cons_append, List.nil_append]
  (repeat (first | ((with_reducible apply t_run); exact rfl) | ((with_reducible apply t_p); exact rfl; exact rfl) | ((with_reducible apply t_gr); exact rfl) | ((with_reducible apply t_ge); exact rfl) | ((with_reducible apply t_ld); exact rfl; exact rfl; (repeat (first | with_reducible exact Pk.h | with_reducible apply Pk.t)); exact rfl) | ((with_reducible apply t_st); exact rfl; exact rfl; exact rfl; (repeat (first | with_reducible exact Pk.h | with_reducible apply Pk.t)); exact rfl; exact rfl; exact Nat.le_of_ble_eq_true rfl; exact rfl; (repeat (first | apply rk_nil | (apply rk_skip; exact rfl) | (apply rk_ld; exact rfl; (repeat (first | with_reducible exact Pk.h | with_reducible apply Pk.t)); exact rfl)))) | ((with_reducible apply t_nx F41.k); exact rfl; exact rfl) | with_reducible apply m_seq | (with_reducible apply m_reg mix) | with_reducible apply m_block | ((with_reducible apply m_ct); exact rfl) | ((with_reducible apply m_cf); exact rfl) | ((with_reducible apply m_skn); exact rfl) | ((with_reducible apply m_exn); exact rfl)))
  refine t_al rfl fun b2 => ⟨(by (repeat (first | apply rk_nil | (apply rk_skip; exact rfl) | (apply rk_ld; exact rfl; (repeat (first | with_reducible exact Pk.h | with_reducible apply Pk.t)); exact rfl)))), ?_⟩
  (repeat (first | ((with_reducible apply t_run); exact rfl) | ((with_reducible apply t_p); exact rfl; exact rfl) | ((with_reducible apply t_gr); exact rfl) | ((with_reducible apply t_ge); exact rfl) | ((with_reducible apply t_ld); exact rfl; exact rfl; (repeat (first | with_reducible exact Pk.h | with_reducible apply Pk.t)); exact rfl) | ((with_reducible apply t_st); exact rfl; exact rfl; exact rfl; (repeat (first | with_reducible exact Pk.h | with_reducible apply Pk.t)); exact rfl; exact rfl; exact Nat.le_of_ble_eq_true rfl; exact rfl; (repeat (first | apply rk_nil | (apply rk_skip; exact rfl) | (apply rk_ld; exact rfl; (repeat (first | with_reducible exact Pk.h | with_reducible apply Pk.t)); exact rfl)))) | ((with_reducible apply t_nx F41.k); exact rfl; exact rfl) | with_reducible apply m_seq | (with_reducible apply m_reg mix) | with_reducible apply m_block | ((with_reducible apply m_ct); exact rfl) | ((with_reducible apply m_cf); exact rfl) | ((with_reducible apply m_skn); exact rfl) | ((with_reducible apply m_exn); exact rfl)))
  refine t_al rfl fun b3 => ⟨(by (repeat (first | apply rk_nil | (apply rk_skip; exact rfl) | (apply rk_ld; exact rfl; (repeat (first | with_reducible exact Pk.h | with_reducible apply Pk.t)); exact rfl)))), ?_⟩
  (repeat (first | ((with_reducible apply t_run); exact rfl) | ((with_reducible apply t_p); exact rfl; exact rfl) | ((with_reducible apply t_gr); exact rfl) | ((with_reducible apply t_ge); exact rfl) | ((with_reducible apply t_ld); exact rfl; exact rfl; (repeat (first | with_reducible exact Pk.h | with_reducible apply Pk.t)); exact rfl) | ((with_reducible apply t_st); exact rfl; exact rfl; exact rfl; (repeat (first | with_reducible exact Pk.h | with_reducible apply Pk.t)); exact rfl; exact rfl; exact Nat.le_of_ble_eq_true rfl; exact rfl; (repeat (first | apply rk_nil | (apply rk_skip; exact rfl) | (apply rk_ld; exact rfl; (repeat (first | with_reducible exact Pk.h | with_reducible apply Pk.t)); exact rfl)))) | ((with_reducible apply t_nx F41.k); exact rfl; exact rfl) | with_reducible apply m_seq | (with_reducible apply m_reg mix) | with_reducible apply m_block | ((with_reducible apply m_ct); exact rfl) | ((with_reducible apply m_cf); exact rfl) | ((with_reducible apply m_skn); exact rfl) | ((with_reducible apply m_exn); exact rfl)))
  refine m_lp (α := Nat × Sm) (fun z => [(8, .int .i64 (z.1 : Nat)), (6, .slice a xs.length c), (7, .int .i64 (xs.length : Nat)), (2, .pointer (some ⟨b2, 0, none⟩)), (3, .pointer (some ⟨b3, 0, none⟩))]) (fun z => [R, Cl b2 28 [.int .u64 0, .int .u32 0], Cl b3 28 z.2.cells, X]) (fun z => z.1 ≤ xs.length ∧ (xs.drop z.1).foldl maxS z.2 = xs.foldl maxS ⟨0, 0⟩) (fun z => xs.length - z.1) ?_ (0, ⟨0, 0⟩) ⟨by simp, rfl⟩ [8, 6, 7, 2, 3] rfl (by repeat (first | apply Sx.nil | apply Pk.h | apply Sx.cons | apply Pk.t))
  rintro ⟨i, m⟩ ⟨hi, ho⟩
  dsimp only at hi ho ⊢
  simp only [Sm.cells]
  (repeat (first | ((with_reducible apply t_run); exact rfl) | ((with_reducible apply t_p); exact rfl; exact rfl) | ((with_reducible apply t_gr); exact rfl) | ((with_reducible apply t_ge); exact rfl) | ((with_reducible apply t_ld); exact rfl; exact rfl; (repeat (first | with_reducible exact Pk.h | with_reducible apply Pk.t)); exact rfl) | ((with_reducible apply t_st); exact rfl; exact rfl; exact rfl; (repeat (first | with_reducible exact Pk.h | with_reducible apply Pk.t)); exact rfl; exact rfl; exact Nat.le_of_ble_eq_true rfl; exact rfl; (repeat (first | apply rk_nil | (apply rk_skip; exact rfl) | (apply rk_ld; exact rfl; (repeat (first | with_reducible exact Pk.h | with_reducible apply Pk.t)); exact rfl)))) | ((with_reducible apply t_nx F41.k); exact rfl; exact rfl) | with_reducible apply m_seq | (with_reducible apply m_reg mix) | with_reducible apply m_block | ((with_reducible apply m_ct); exact rfl) | ((with_reducible apply m_cf); exact rfl) | ((with_reducible apply m_skn); exact rfl) | ((with_reducible apply m_exn); exact rfl)))
  refine m_cond rfl (fun q => ?_) (fun q => ?_)
  · have hi' : i < xs.length := by have := of_decide_eq_true q; omega
    obtain ⟨b, o, rfl, _⟩ := hv.ptr (by rw [hlen]; omega)
    (repeat (first | ((with_reducible apply t_run); exact rfl) | ((with_reducible apply t_p); exact rfl; exact rfl) | ((with_reducible apply t_gr); exact rfl) | ((with_reducible apply t_ge); exact rfl) | ((with_reducible apply t_ld); exact rfl; exact rfl; (repeat (first | with_reducible exact Pk.h | with_reducible apply Pk.t)); exact rfl) | ((with_reducible apply t_st); exact rfl; exact rfl; exact rfl; (repeat (first | with_reducible exact Pk.h | with_reducible apply Pk.t)); exact rfl; exact rfl; exact Nat.le_of_ble_eq_true rfl; exact rfl; (repeat (first | apply rk_nil | (apply rk_skip; exact rfl) | (apply rk_ld; exact rfl; (repeat (first | with_reducible exact Pk.h | with_reducible apply Pk.t)); exact rfl)))) | ((with_reducible apply t_nx F41.k); exact rfl; exact rfl) | with_reducible apply m_seq | (with_reducible apply m_reg mix) | with_reducible apply m_block | ((with_reducible apply m_ct); exact rfl) | ((with_reducible apply m_cf); exact rfl) | ((with_reducible apply m_skn); exact rfl) | ((with_reducible apply m_exn); exact rfl)))
    refine t_ia i rfl rfl rfl hi' ?_
    refine t_la rfl rfl (R := R) (by repeat (first | with_reducible exact Pk.h | with_reducible apply Pk.t)) (hv.at (by decide) (i := i) (x := xs[i].cells) (by simp [hi'])) ?_
    simp only [Sm.cells]
    (repeat (first | ((with_reducible apply t_run); exact rfl) | ((with_reducible apply t_p); exact rfl; exact rfl) | ((with_reducible apply t_gr); exact rfl) | ((with_reducible apply t_ge); exact rfl) | ((with_reducible apply t_ld); exact rfl; exact rfl; (repeat (first | with_reducible exact Pk.h | with_reducible apply Pk.t)); exact rfl) | ((with_reducible apply t_st); exact rfl; exact rfl; exact rfl; (repeat (first | with_reducible exact Pk.h | with_reducible apply Pk.t)); exact rfl; exact rfl; exact Nat.le_of_ble_eq_true rfl; exact rfl; (repeat (first | apply rk_nil | (apply rk_skip; exact rfl) | (apply rk_ld; exact rfl; (repeat (first | with_reducible exact Pk.h | with_reducible apply Pk.t)); exact rfl)))) | ((with_reducible apply t_nx F41.k); exact rfl; exact rfl) | with_reducible apply m_seq | (with_reducible apply m_reg mix) | with_reducible apply m_block | ((with_reducible apply m_ct); exact rfl) | ((with_reducible apply m_cf); exact rfl) | ((with_reducible apply m_skn); exact rfl) | ((with_reducible apply m_exn); exact rfl)))
    refine t_al rfl fun b5 => ⟨(by (repeat (first | apply rk_nil | (apply rk_skip; exact rfl) | (apply rk_ld; exact rfl; (repeat (first | with_reducible exact Pk.h | with_reducible apply Pk.t)); exact rfl)))), ?_⟩
    (repeat (first | ((with_reducible apply t_run); exact rfl) | ((with_reducible apply t_p); exact rfl; exact rfl) | ((with_reducible apply t_gr); exact rfl) | ((with_reducible apply t_ge); exact rfl) | ((with_reducible apply t_ld); exact rfl; exact rfl; (repeat (first | with_reducible exact Pk.h | with_reducible apply Pk.t)); exact rfl) | ((with_reducible apply t_st); exact rfl; exact rfl; exact rfl; (repeat (first | with_reducible exact Pk.h | with_reducible apply Pk.t)); exact rfl; exact rfl; exact Nat.le_of_ble_eq_true rfl; exact rfl; (repeat (first | apply rk_nil | (apply rk_skip; exact rfl) | (apply rk_ld; exact rfl; (repeat (first | with_reducible exact Pk.h | with_reducible apply Pk.t)); exact rfl)))) | ((with_reducible apply t_nx F41.k); exact rfl; exact rfl) | with_reducible apply m_seq | (with_reducible apply m_reg mix) | with_reducible apply m_block | ((with_reducible apply m_ct); exact rfl) | ((with_reducible apply m_cf); exact rfl) | ((with_reducible apply m_skn); exact rfl) | ((with_reducible apply m_exn); exact rfl)))
    refine t_cl rfl rfl (Less_spec m xs[i]) (by repeat (first | apply Sx.nil | apply Pk.h | apply Sx.cons | apply Pk.t)) ?_
    rintro _ _ ⟨rfl, rfl⟩
    refine ⟨?_, ?_⟩ <;> (try dsimp only [List.cons_append, List.nil_append])
    · (repeat (first | apply rk_nil | (apply rk_skip; exact rfl) | (apply rk_ld; exact rfl; (repeat (first | with_reducible exact Pk.h | with_reducible apply Pk.t)); exact rfl)))
    (repeat (first | ((with_reducible apply t_run); exact rfl) | ((with_reducible apply t_p); exact rfl; exact rfl) | ((with_reducible apply t_gr); exact rfl) | ((with_reducible apply t_ge); exact rfl) | ((with_reducible apply t_ld); exact rfl; exact rfl; (repeat (first | with_reducible exact Pk.h | with_reducible apply Pk.t)); exact rfl) | ((with_reducible apply t_st); exact rfl; exact rfl; exact rfl; (repeat (first | with_reducible exact Pk.h | with_reducible apply Pk.t)); exact rfl; exact rfl; exact Nat.le_of_ble_eq_true rfl; exact rfl; (repeat (first | apply rk_nil | (apply rk_skip; exact rfl) | (apply rk_ld; exact rfl; (repeat (first | with_reducible exact Pk.h | with_reducible apply Pk.t)); exact rfl)))) | ((with_reducible apply t_nx F41.k); exact rfl; exact rfl) | with_reducible apply m_seq | (with_reducible apply m_reg mix) | with_reducible apply m_block | ((with_reducible apply m_ct); exact rfl) | ((with_reducible apply m_cf); exact rfl) | ((with_reducible apply m_skn); exact rfl) | ((with_reducible apply m_exn); exact rfl)))
    rw [foldl_drop hi'] at ho
    refine m_cond rfl (fun q2 => ?_) (fun q2 => ?_)
    · (repeat (first | ((with_reducible apply t_run); exact rfl) | ((with_reducible apply t_p); exact rfl; exact rfl) | ((with_reducible apply t_gr); exact rfl) | ((with_reducible apply t_ge); exact rfl) | ((with_reducible apply t_ld); exact rfl; exact rfl; (repeat (first | with_reducible exact Pk.h | with_reducible apply Pk.t)); exact rfl) | ((with_reducible apply t_st); exact rfl; exact rfl; exact rfl; (repeat (first | with_reducible exact Pk.h | with_reducible apply Pk.t)); exact rfl; exact rfl; exact Nat.le_of_ble_eq_true rfl; exact rfl; (repeat (first | apply rk_nil | (apply rk_skip; exact rfl) | (apply rk_ld; exact rfl; (repeat (first | with_reducible exact Pk.h | with_reducible apply Pk.t)); exact rfl)))) | ((with_reducible apply t_nx F41.k); exact rfl; exact rfl) | with_reducible apply m_seq | (with_reducible apply m_reg mix) | with_reducible apply m_block | ((with_reducible apply m_ct); exact rfl) | ((with_reducible apply m_cf); exact rfl) | ((with_reducible apply m_skn); exact rfl) | ((with_reducible apply m_exn); exact rfl)))
      rw [show maxS m xs[i] = xs[i] from if_pos q2] at ho
      refine t_meet rfl (i + 1, xs[i]) ⟨⟨(by simp; omega), ho⟩, (by simp; omega)⟩ [8, 6, 7, 2, 3] ?_ (by repeat (first | apply Sx.nil | apply Pk.h | apply Sx.cons | apply Pk.t))
      rw [wrap_nat (by omega)]
      rfl
    · (repeat (first | ((with_reducible apply t_run); exact rfl) | ((with_reducible apply t_p); exact rfl; exact rfl) | ((with_reducible apply t_gr); exact rfl) | ((with_reducible apply t_ge); exact rfl) | ((with_reducible apply t_ld); exact rfl; exact rfl; (repeat (first | with_reducible exact Pk.h | with_reducible apply Pk.t)); exact rfl) | ((with_reducible apply t_st); exact rfl; exact rfl; exact rfl; (repeat (first | with_reducible exact Pk.h | with_reducible apply Pk.t)); exact rfl; exact rfl; exact Nat.le_of_ble_eq_true rfl; exact rfl; (repeat (first | apply rk_nil | (apply rk_skip; exact rfl) | (apply rk_ld; exact rfl; (repeat (first | with_reducible exact Pk.h | with_reducible apply Pk.t)); exact rfl)))) | ((with_reducible apply t_nx F41.k); exact rfl; exact rfl) | with_reducible apply m_seq | (with_reducible apply m_reg mix) | with_reducible apply m_block | ((with_reducible apply m_ct); exact rfl) | ((with_reducible apply m_cf); exact rfl) | ((with_reducible apply m_skn); exact rfl) | ((with_reducible apply m_exn); exact rfl)))
      rw [show maxS m xs[i] = m from if_neg (by simp [q2])] at ho
      refine t_meet rfl (i + 1, m) ⟨⟨(by simp; omega), ho⟩, (by simp; omega)⟩ [8, 6, 7, 2, 3] ?_ (by repeat (first | apply Sx.nil | apply Pk.h | apply Sx.cons | apply Pk.t))
      rw [wrap_nat (by omega)]
      rfl
  · have hi' : i = xs.length := by have := of_decide_eq_false q; omega
    (repeat (first | ((with_reducible apply t_run); exact rfl) | ((with_reducible apply t_p); exact rfl; exact rfl) | ((with_reducible apply t_gr); exact rfl) | ((with_reducible apply t_ge); exact rfl) | ((with_reducible apply t_ld); exact rfl; exact rfl; (repeat (first | with_reducible exact Pk.h | with_reducible apply Pk.t)); exact rfl) | ((with_reducible apply t_st); exact rfl; exact rfl; exact rfl; (repeat (first | with_reducible exact Pk.h | with_reducible apply Pk.t)); exact rfl; exact rfl; exact Nat.le_of_ble_eq_true rfl; exact rfl; (repeat (first | apply rk_nil | (apply rk_skip; exact rfl) | (apply rk_ld; exact rfl; (repeat (first | with_reducible exact Pk.h | with_reducible apply Pk.t)); exact rfl)))) | ((with_reducible apply t_nx F41.k); exact rfl; exact rfl) | with_reducible apply m_seq | (with_reducible apply m_reg mix) | with_reducible apply m_block | ((with_reducible apply m_ct); exact rfl) | ((with_reducible apply m_cf); exact rfl) | ((with_reducible apply m_skn); exact rfl) | ((with_reducible apply m_exn); exact rfl)))
    subst hi'
    rw [List.drop_length] at ho
    rw [← ho]
    apply m_ret
    · rfl
    · (repeat (first | apply rs_nil | (apply rs_tmp; exact rfl) | (apply rs_cell; exact rfl; (repeat (first | with_reducible exact Pk.h | with_reducible apply Pk.t)); exact rfl)))
    · exact ⟨rfl, rfl⟩
    · exact (by repeat (first | apply Sx.nil | apply Pk.h | apply Sx.cons | apply Pk.t))

/-- Lay$2 -/
theorem cmpW_spec (a b : Wr) : Fsp Try.prog 34 [a.V, b.V] [] fun u aa' => u = .int .i64 (if slt a.key b.key then -1 else 1) ∧ aa' = [] := by
  obtain ⟨k, v, d⟩ := a
  obtain ⟨k', v', d'⟩ := b
  refine spec_of F34.ok rfl fun gl X => ?_
  dsimp only [List.cons_append, List.nil_append]
  simp only [Wr.V]
  (repeat (first | ((with_reducible apply t_run); exact rfl) | ((with_reducible apply t_p); exact rfl; exact rfl) | ((with_reducible apply t_gr); exact rfl) | ((with_reducible apply t_ge); exact rfl) | ((with_reducible apply t_ld); exact rfl; exact rfl; (repeat (first | with_reducible exact Pk.h | with_reducible apply Pk.t)); exact rfl) | ((with_reducible apply t_st); exact rfl; exact rfl; exact rfl; (repeat (first | with_reducible exact Pk.h | with_reducible apply Pk.t)); exact rfl; exact rfl; exact Nat.le_of_ble_eq_true rfl; exact rfl; (repeat (first | apply rk_nil | (apply rk_skip; exact rfl) | (apply rk_ld; exact rfl; (repeat (first | with_reducible exact Pk.h | with_reducible apply Pk.t)); exact rfl)))) | ((with_reducible apply t_nx F34.k); exact rfl; exact rfl) | with_reducible apply m_seq | (with_reducible apply m_reg mix) | with_reducible apply m_block | ((with_reducible apply m_ct); exact rfl) | ((with_reducible apply m_cf); exact rfl) | ((with_reducible apply m_skn); exact rfl) | ((with_reducible apply m_exn); exact rfl)))
  refine t_bx rfl rfl rfl fun b1 => ⟨(by (repeat (first | apply rk_nil | (apply rk_skip; exact rfl) | (apply rk_ld; exact rfl; (repeat (first | with_reducible exact Pk.h | with_reducible apply Pk.t)); exact rfl)))), ?_⟩
  try dsimp only [List.cons_append, List.nil_append]
  (repeat (first | ((with_reducible apply t_run); exact rfl) | ((with_reducible apply t_p); exact rfl; exact rfl) | ((with_reducible apply t_gr); exact rfl) | ((with_reducible apply t_ge); exact rfl) | ((with_reducible apply t_ld); exact rfl; exact rfl; (repeat (first | with_reducible exact Pk.h | with_reducible apply Pk.t)); exact rfl) | ((with_reducible apply t_st); exact rfl; exact rfl; exact rfl; (repeat (first | with_reducible exact Pk.h | with_reducible apply Pk.t)); exact rfl; exact rfl; exact Nat.le_of_ble_eq_true rfl; exact rfl; (repeat (first | apply rk_nil | (apply rk_skip; exact rfl) | (apply rk_ld; exact rfl; (repeat (first | with_reducible exact Pk.h | with_reducible apply Pk.t)); exact rfl)))) | ((with_reducible apply t_nx F34.k); exact rfl; exact rfl) | with_reducible apply m_seq | (with_reducible apply m_reg mix) | with_reducible apply m_block | ((with_reducible apply m_ct); exact rfl) | ((with_reducible apply m_cf); exact rfl) | ((with_reducible apply m_skn); exact rfl) | ((with_reducible apply m_exn); exact rfl)))
  refine t_bx rfl rfl rfl fun b2 => ⟨(by (repeat (first | apply rk_nil | (apply rk_skip; exact rfl) | (apply rk_ld; exact rfl; (repeat (first | with_reducible exact Pk.h | with_reducible apply Pk.t)); exact rfl)))), ?_⟩
  try dsimp only [List.cons_append, List.nil_append]
  (repeat (first | ((with_reducible apply t_run); exact rfl) | ((with_reducible apply t_p); exact rfl; exact rfl) | ((with_reducible apply t_gr); exact rfl) | ((with_reducible apply t_ge); exact rfl) | ((with_reducible apply t_ld); exact rfl; exact rfl; (repeat (first | with_reducible exact Pk.h | with_reducible apply Pk.t)); exact rfl) | ((with_reducible apply t_st); exact rfl; exact rfl; exact rfl; (repeat (first | with_reducible exact Pk.h | with_reducible apply Pk.t)); exact rfl; exact rfl; exact Nat.le_of_ble_eq_true rfl; exact rfl; (repeat (first | apply rk_nil | (apply rk_skip; exact rfl) | (apply rk_ld; exact rfl; (repeat (first | with_reducible exact Pk.h | with_reducible apply Pk.t)); exact rfl)))) | ((with_reducible apply t_nx F34.k); exact rfl; exact rfl) | with_reducible apply m_seq | (with_reducible apply m_reg mix) | with_reducible apply m_block | ((with_reducible apply m_ct); exact rfl) | ((with_reducible apply m_cf); exact rfl) | ((with_reducible apply m_skn); exact rfl) | ((with_reducible apply m_exn); exact rfl)))
  refine m_cond rfl (fun q => ?_) (fun q => ?_)
  · (repeat (first | ((with_reducible apply t_run); exact rfl) | ((with_reducible apply t_p); exact rfl; exact rfl) | ((with_reducible apply t_gr); exact rfl) | ((with_reducible apply t_ge); exact rfl) | ((with_reducible apply t_ld); exact rfl; exact rfl; (repeat (first | with_reducible exact Pk.h | with_reducible apply Pk.t)); exact rfl) | ((with_reducible apply t_st); exact rfl; exact rfl; exact rfl; (repeat (first | with_reducible exact Pk.h | with_reducible apply Pk.t)); exact rfl; exact rfl; exact Nat.le_of_ble_eq_true rfl; exact rfl; (repeat (first | apply rk_nil | (apply rk_skip; exact rfl) | (apply rk_ld; exact rfl; (repeat (first | with_reducible exact Pk.h | with_reducible apply Pk.t)); exact rfl)))) | ((with_reducible apply t_nx F34.k); exact rfl; exact rfl) | with_reducible apply m_seq | (with_reducible apply m_reg mix) | with_reducible apply m_block | ((with_reducible apply m_ct); exact rfl) | ((with_reducible apply m_cf); exact rfl) | ((with_reducible apply m_skn); exact rfl) | ((with_reducible apply m_exn); exact rfl)))
    apply m_ret
    · rfl
    · (repeat (first | apply rs_nil | (apply rs_tmp; exact rfl) | (apply rs_cell; exact rfl; (repeat (first | with_reducible exact Pk.h | with_reducible apply Pk.t)); exact rfl)))
    · exact ⟨by rw [if_pos q]; rfl, rfl⟩
    · exact (by repeat (first | apply Sx.nil | apply Pk.h | apply Sx.cons | apply Pk.t))
  · (repeat (first | ((with_reducible apply t_run); exact rfl) | ((with_reducible apply t_p); exact rfl; exact rfl) | ((with_reducible apply t_gr); exact rfl) | ((with_reducible apply t_ge); exact rfl) | ((with_reducible apply t_ld); exact rfl; exact rfl; (repeat (first | with_reducible exact Pk.h | with_reducible apply Pk.t)); exact rfl) | ((with_reducible apply t_st); exact rfl; exact rfl; exact rfl; (repeat (first | with_reducible exact Pk.h | with_reducible apply Pk.t)); exact rfl; exact rfl; exact Nat.le_of_ble_eq_true rfl; exact rfl; (repeat (first | apply rk_nil | (apply rk_skip; exact rfl) | (apply rk_ld; exact rfl; (repeat (first | with_reducible exact Pk.h | with_reducible apply Pk.t)); exact rfl)))) | ((with_reducible apply t_nx F34.k); exact rfl; exact rfl) | with_reducible apply m_seq | (with_reducible apply m_reg mix) | with_reducible apply m_block | ((with_reducible apply m_ct); exact rfl) | ((with_reducible apply m_cf); exact rfl) | ((with_reducible apply m_skn); exact rfl) | ((with_reducible apply m_exn); exact rfl)))
    apply m_ret
    · rfl
    · (repeat (first | apply rs_nil | (apply rs_tmp; exact rfl) | (apply rs_cell; exact rfl; (repeat (first | with_reducible exact Pk.h | with_reducible apply Pk.t)); exact rfl)))
    · exact ⟨by rw [if_neg (by simp [q])]; rfl, rfl⟩
    · exact (by repeat (first | apply Sx.nil | apply Pk.h | apply Sx.cons | apply Pk.t))

structure Hd where
  start : Sm
  min : Sm
  prim : ByteArray
structure In where
  tx : Tx
  start : Sm
  min : Sm
  prim : ByteArray
  w : Wr
def In.cells (x : In) : List Value := [.int .u32 x.tx.c, .int .u32 x.tx.n, .int .u64 x.start.p, .int .u32 x.start.l, .int .u64 x.min.p, .int .u32 x.min.l, .string x.prim, .string x.w.key, .string x.w.val, .bool x.w.dead]
def In.V (x : In) : Value := .agg x.cells.toArray
def hdC (h : Hd) (v : Value) : List Value := [.int .u64 h.start.p, .int .u32 h.start.l, .int .u64 h.min.p, .int .u32 h.min.l, .string h.prim, v]
theorem intent_spec (b : Nat) (h : Hd) (v : Value) (t : Tx) (w : Wr) : Fsp Try.prog 39 [.pointer (some ⟨b, 0, none⟩), t.V, w.V] [Cl b 75 (hdC h v)] fun u aa' => u = (In.mk t h.start h.min h.prim w).V ∧ aa' = [Cl b 75 (hdC h v)] := by
  obtain ⟨⟨p, l⟩, ⟨p', l'⟩, pr⟩ := h
  obtain ⟨c, n⟩ := t
  obtain ⟨wk, wv, wd⟩ := w
  refine spec_of F39.ok rfl fun gl X => ?_
  dsimp only [List.cons_append, List.nil_append]
  simp only [Tx.V, Wr.V, hdC]
  (repeat (first | ((with_reducible apply t_run); exact rfl) | ((with_reducible apply t_p); exact rfl; exact rfl) | ((with_reducible apply t_gr); exact rfl) | ((with_reducible apply t_ge); exact rfl) | ((with_reducible apply t_ld); exact rfl; exact rfl; (repeat (first | with_reducible exact Pk.h | with_reducible apply Pk.t)); exact rfl) | ((with_reducible apply t_st); exact rfl; exact rfl; exact rfl; (repeat (first | with_reducible exact Pk.h | with_reducible apply Pk.t)); exact rfl; exact rfl; exact Nat.le_of_ble_eq_true rfl; exact rfl; (repeat (first | apply rk_nil | (apply rk_skip; exact rfl) | (apply rk_ld; exact rfl; (repeat (first | with_reducible exact Pk.h | with_reducible apply Pk.t)); exact rfl)))) | ((with_reducible apply t_nx F39.k); exact rfl; exact rfl) | with_reducible apply m_seq | (with_reducible apply m_reg mix) | with_reducible apply m_block | ((with_reducible apply m_ct); exact rfl) | ((with_reducible apply m_cf); exact rfl) | ((with_reducible apply m_skn); exact rfl) | ((with_reducible apply m_exn); exact rfl)))
  refine t_bx rfl rfl rfl fun b4 => ⟨(by (repeat (first | apply rk_nil | (apply rk_skip; exact rfl) | (apply rk_ld; exact rfl; (repeat (first | with_reducible exact Pk.h | with_reducible apply Pk.t)); exact rfl)))), ?_⟩
  try dsimp only [List.cons_append, List.nil_append]
  (repeat (first | ((with_reducible apply t_run); exact rfl) | ((with_reducible apply t_p); exact rfl; exact rfl) | ((with_reducible apply t_gr); exact rfl) | ((with_reducible apply t_ge); exact rfl) | ((with_reducible apply t_ld); exact rfl; exact rfl; (repeat (first | with_reducible exact Pk.h | with_reducible apply Pk.t)); exact rfl) | ((with_reducible apply t_st); exact rfl; exact rfl; exact rfl; (repeat (first | with_reducible exact Pk.h | with_reducible apply Pk.t)); exact rfl; exact rfl; exact Nat.le_of_ble_eq_true rfl; exact rfl; (repeat (first | apply rk_nil | (apply rk_skip; exact rfl) | (apply rk_ld; exact rfl; (repeat (first | with_reducible exact Pk.h | with_reducible apply Pk.t)); exact rfl)))) | ((with_reducible apply t_nx F39.k); exact rfl; exact rfl) | with_reducible apply m_seq | (with_reducible apply m_reg mix) | with_reducible apply m_block | ((with_reducible apply m_ct); exact rfl) | ((with_reducible apply m_cf); exact rfl) | ((with_reducible apply m_skn); exact rfl) | ((with_reducible apply m_exn); exact rfl)))
  refine t_bx rfl rfl rfl fun b5 => ⟨(by (repeat (first | apply rk_nil | (apply rk_skip; exact rfl) | (apply rk_ld; exact rfl; (repeat (first | with_reducible exact Pk.h | with_reducible apply Pk.t)); exact rfl)))), ?_⟩
  try dsimp only [List.cons_append, List.nil_append]
  (repeat (first | ((with_reducible apply t_run); exact rfl) | ((with_reducible apply t_p); exact rfl; exact rfl) | ((with_reducible apply t_gr); exact rfl) | ((with_reducible apply t_ge); exact rfl) | ((with_reducible apply t_ld); exact rfl; exact rfl; (repeat (first | with_reducible exact Pk.h | with_reducible apply Pk.t)); exact rfl) | ((with_reducible apply t_st); exact rfl; exact rfl; exact rfl; (repeat (first | with_reducible exact Pk.h | with_reducible apply Pk.t)); exact rfl; exact rfl; exact Nat.le_of_ble_eq_true rfl; exact rfl; (repeat (first | apply rk_nil | (apply rk_skip; exact rfl) | (apply rk_ld; exact rfl; (repeat (first | with_reducible exact Pk.h | with_reducible apply Pk.t)); exact rfl)))) | ((with_reducible apply t_nx F39.k); exact rfl; exact rfl) | with_reducible apply m_seq | (with_reducible apply m_reg mix) | with_reducible apply m_block | ((with_reducible apply m_ct); exact rfl) | ((with_reducible apply m_cf); exact rfl) | ((with_reducible apply m_skn); exact rfl) | ((with_reducible apply m_exn); exact rfl)))
  refine t_al rfl fun b6 => ⟨(by (repeat (first | apply rk_nil | (apply rk_skip; exact rfl) | (apply rk_ld; exact rfl; (repeat (first | with_reducible exact Pk.h | with_reducible apply Pk.t)); exact rfl)))), ?_⟩
  (repeat (first | ((with_reducible apply t_run); exact rfl) | ((with_reducible apply t_p); exact rfl; exact rfl) | ((with_reducible apply t_gr); exact rfl) | ((with_reducible apply t_ge); exact rfl) | ((with_reducible apply t_ld); exact rfl; exact rfl; (repeat (first | with_reducible exact Pk.h | with_reducible apply Pk.t)); exact rfl) | ((with_reducible apply t_st); exact rfl; exact rfl; exact rfl; (repeat (first | with_reducible exact Pk.h | with_reducible apply Pk.t)); exact rfl; exact rfl; exact Nat.le_of_ble_eq_true rfl; exact rfl; (repeat (first | apply rk_nil | (apply rk_skip; exact rfl) | (apply rk_ld; exact rfl; (repeat (first | with_reducible exact Pk.h | with_reducible apply Pk.t)); exact rfl)))) | ((with_reducible apply t_nx F39.k); exact rfl; exact rfl) | with_reducible apply m_seq | (with_reducible apply m_reg mix) | with_reducible apply m_block | ((with_reducible apply m_ct); exact rfl) | ((with_reducible apply m_cf); exact rfl) | ((with_reducible apply m_skn); exact rfl) | ((with_reducible apply m_exn); exact rfl)))
  apply m_ret
  · rfl
  · (repeat (first | apply rs_nil | (apply rs_tmp; exact rfl) | (apply rs_cell; exact rfl; (repeat (first | with_reducible exact Pk.h | with_reducible apply Pk.t)); exact rfl)))
  · exact ⟨rfl, rfl⟩
  · exact (by repeat (first | apply Sx.nil | apply Pk.h | apply Sx.cons | apply Pk.t))
end Go.Proofs.Ythcbefkgfhokoaa

/- Slices' functions; writes that may be laid. -/
namespace Go.Proofs.Ythcbefkgfhokoaa
open Go Go.Dv
set_option maxRecDepth 100000
attribute [local irreducible] HTh HM En Fsp TrA Cl MpA OwS RdS MpO

theorem sl29 : slI Try.prog 29 = some (39, 3, 40, [.string ⟨#[]⟩, .string ⟨#[]⟩, .bool false]) := by kernel_rfl
def wcs (ws : List Wr) : List (List Value) := ws.map Wr.cells
theorem wcs_len (ws : List Wr) : (wcs ws).length = ws.length := by simp [wcs]
theorem wcs_one (ws : List Wr) : (wcs ws).flatten.all Value.oneCell' = true := by
  induction ws with
  | nil => rfl
  | cons w ws ih => simp [wcs, Wr.cells, Value.oneCell']

/-- slices.Clone -/
theorem Clone_spec (R : HP) (v : Value) (ws : List Wr) (hv : RdS R 3 v (wcs ws)) (h0 : 0 < ws.length) (hl : ws.length ≤ 1099511627776) :
    Fsp Try.prog 32 [v] [R] fun u aa' => aa' = [OwS 39 3 u ws.length (wcs ws).flatten, R] := by
  obtain ⟨a, c, rfl⟩ := hv.len
  obtain ⟨b, o, rfl, _⟩ := hv.ptr (by rw [wcs_len]; omega)
  have hl2 := wcs_len ws
  refine spec_of F32.ok rfl fun gl X => ?_
  dsimp only [List.cons_append, List.nil_append]
  (repeat (first | ((with_reducible apply t_run); exact rfl) | ((with_reducible apply t_p); exact rfl; exact rfl) | ((with_reducible apply t_gr); exact rfl) | ((with_reducible apply t_ge); exact rfl) | ((with_reducible apply t_ld); exact rfl; exact rfl; (repeat (first | with_reducible exact Pk.h | with_reducible apply Pk.t)); exact rfl) | ((with_reducible apply t_st); exact rfl; exact rfl; exact rfl; (repeat (first | with_reducible exact Pk.h | with_reducible apply Pk.t)); exact rfl; exact rfl; exact Nat.le_of_ble_eq_true rfl; exact rfl; (repeat (first | apply rk_nil | (apply rk_skip; exact rfl) | (apply rk_ld; exact rfl; (repeat (first | with_reducible exact Pk.h | with_reducible apply Pk.t)); exact rfl)))) | ((with_reducible apply t_nx F32.k); exact rfl; exact rfl) | with_reducible apply m_seq | (with_reducible apply m_reg mix) | with_reducible apply m_block | ((with_reducible apply m_ct); exact rfl) | ((with_reducible apply m_cf); exact rfl) | ((with_reducible apply m_skn); exact rfl) | ((with_reducible apply m_exn); exact rfl)))
  refine t_bs0 sl29 rfl fun b0 => ⟨(by (repeat (first | apply rk_nil | (apply rk_skip; exact rfl) | (apply rk_ld; exact rfl; (repeat (first | with_reducible exact Pk.h | with_reducible apply Pk.t)); exact rfl)))), ?_⟩
  (repeat (first | ((with_reducible apply t_run); exact rfl) | ((with_reducible apply t_p); exact rfl; exact rfl) | ((with_reducible apply t_gr); exact rfl) | ((with_reducible apply t_ge); exact rfl) | ((with_reducible apply t_ld); exact rfl; exact rfl; (repeat (first | with_reducible exact Pk.h | with_reducible apply Pk.t)); exact rfl) | ((with_reducible apply t_st); exact rfl; exact rfl; exact rfl; (repeat (first | with_reducible exact Pk.h | with_reducible apply Pk.t)); exact rfl; exact rfl; exact Nat.le_of_ble_eq_true rfl; exact rfl; (repeat (first | apply rk_nil | (apply rk_skip; exact rfl) | (apply rk_ld; exact rfl; (repeat (first | with_reducible exact Pk.h | with_reducible apply Pk.t)); exact rfl)))) | ((with_reducible apply t_nx F32.k); exact rfl; exact rfl) | with_reducible apply m_seq | (with_reducible apply m_reg mix) | with_reducible apply m_block | ((with_reducible apply m_ct); exact rfl) | ((with_reducible apply m_cf); exact rfl) | ((with_reducible apply m_skn); exact rfl) | ((with_reducible apply m_exn); exact rfl)))
  refine t_apR sl29 rfl rfl rfl hv (by repeat (first | with_reducible exact Pk.h | with_reducible apply Pk.t)) (by repeat (first | with_reducible exact Pk.h | with_reducible apply Pk.t)) rfl (by decide) (wcs_one ws) (by omega) (by omega) fun v' => ⟨(by (repeat (first | apply rk_nil | (apply rk_skip; exact rfl) | (apply rk_ld; exact rfl; (repeat (first | with_reducible exact Pk.h | with_reducible apply Pk.t)); exact rfl)))), ?_⟩
  (repeat (first | ((with_reducible apply t_run); exact rfl) | ((with_reducible apply t_p); exact rfl; exact rfl) | ((with_reducible apply t_gr); exact rfl) | ((with_reducible apply t_ge); exact rfl) | ((with_reducible apply t_ld); exact rfl; exact rfl; (repeat (first | with_reducible exact Pk.h | with_reducible apply Pk.t)); exact rfl) | ((with_reducible apply t_st); exact rfl; exact rfl; exact rfl; (repeat (first | with_reducible exact Pk.h | with_reducible apply Pk.t)); exact rfl; exact rfl; exact Nat.le_of_ble_eq_true rfl; exact rfl; (repeat (first | apply rk_nil | (apply rk_skip; exact rfl) | (apply rk_ld; exact rfl; (repeat (first | with_reducible exact Pk.h | with_reducible apply Pk.t)); exact rfl)))) | ((with_reducible apply t_nx F32.k); exact rfl; exact rfl) | with_reducible apply m_seq | (with_reducible apply m_reg mix) | with_reducible apply m_block | ((with_reducible apply m_ct); exact rfl) | ((with_reducible apply m_cf); exact rfl) | ((with_reducible apply m_skn); exact rfl) | ((with_reducible apply m_exn); exact rfl)))
  rw [Nat.zero_add, List.nil_append, hl2]
  apply m_ret
  · rfl
  · (repeat (first | apply rs_nil | (apply rs_tmp; exact rfl) | (apply rs_cell; exact rfl; (repeat (first | with_reducible exact Pk.h | with_reducible apply Pk.t)); exact rfl)))
  · exact rfl
  · exact (by repeat (first | apply Sx.nil | apply Pk.h | apply Sx.cons | apply Pk.t))

/-- slices.IndexFunc -/
theorem IndexFunc_spec (R Q : HP) (v : Value) (ws : List Wr) (f : Nat) (cap : Value) (p : Wr → Bool) (hv : RdS R 3 v (wcs ws)) (hl : ws.length < 9223372036854775808) (hb : Bd Try.prog f)
    (hf : ∀ w ∈ ws, Fsp Try.prog f [w.V, cap] [Q] fun u aa' => u = .bool (p w) ∧ aa' = [Q]) :
    Fsp Try.prog 48 [v, .func (.func f) #[] #[cap]] [R, Q] fun u aa' => (∃ j : Int, u = .int .i64 j ∧ decide (j ≥ 0) = ws.any p) ∧ aa' = [R, Q] := by
  obtain ⟨a, c, rfl⟩ := hv.len
  have hlen := wcs_len ws
  rw [hlen] at hv ⊢
  refine spec_of F48.ok rfl fun gl X => ?_
  dsimp only [List.cons_append, List.nil_append]
  (repeat (first | ((with_reducible apply t_run); exact rfl) | ((with_reducible apply t_p); exact rfl; exact rfl) | ((with_reducible apply t_gr); exact rfl) | ((with_reducible apply t_ge); exact rfl) | ((with_reducible apply t_ld); exact rfl; exact rfl; (repeat (first | with_reducible exact Pk.h | with_reducible apply Pk.t)); exact rfl) | ((with_reducible apply t_st); exact rfl; exact rfl; exact rfl; (repeat (first | with_reducible exact Pk.h | with_reducible apply Pk.t)); exact rfl; exact rfl; exact Nat.le_of_ble_eq_true rfl; exact rfl; (repeat (first | apply rk_nil | (apply rk_skip; exact rfl) | (apply rk_ld; exact rfl; (repeat (first | with_reducible exact Pk.h | with_reducible apply Pk.t)); exact rfl)))) | ((with_reducible apply t_nx F48.k); exact rfl; exact rfl) | with_reducible apply m_seq | (with_reducible apply m_reg mix) | with_reducible apply m_block | ((with_reducible apply m_ct); exact rfl) | ((with_reducible apply m_cf); exact rfl) | ((with_reducible apply m_skn); exact rfl) | ((with_reducible apply m_exn); exact rfl)))
  refine m_lp (α := Nat) (fun i => [(8, .int .i64 (i : Nat)), (0, .slice a ws.length c), (1, .func (.func f) #[] #[cap]), (7, .int .i64 (ws.length : Nat))]) (fun _ => [R, Q, X]) (fun i => i ≤ ws.length ∧ (ws.drop i).any p = ws.any p) (fun i => ws.length - i) ?_ 0 ⟨by omega, rfl⟩ [8, 0, 1, 7] rfl (by repeat (first | apply Sx.nil | apply Pk.h | apply Sx.cons | apply Pk.t))
  rintro i ⟨hi, ho⟩
  (repeat (first | ((with_reducible apply t_run); exact rfl) | ((with_reducible apply t_p); exact rfl; exact rfl) | ((with_reducible apply t_gr); exact rfl) | ((with_reducible apply t_ge); exact rfl) | ((with_reducible apply t_ld); exact rfl; exact rfl; (repeat (first | with_reducible exact Pk.h | with_reducible apply Pk.t)); exact rfl) | ((with_reducible apply t_st); exact rfl; exact rfl; exact rfl; (repeat (first | with_reducible exact Pk.h | with_reducible apply Pk.t)); exact rfl; exact rfl; exact Nat.le_of_ble_eq_true rfl; exact rfl; (repeat (first | apply rk_nil | (apply rk_skip; exact rfl) | (apply rk_ld; exact rfl; (repeat (first | with_reducible exact Pk.h | with_reducible apply Pk.t)); exact rfl)))) | ((with_reducible apply t_nx F48.k); exact rfl; exact rfl) | with_reducible apply m_seq | (with_reducible apply m_reg mix) | with_reducible apply m_block | ((with_reducible apply m_ct); exact rfl) | ((with_reducible apply m_cf); exact rfl) | ((with_reducible apply m_skn); exact rfl) | ((with_reducible apply m_exn); exact rfl)))
  refine m_cond rfl (fun q => ?_) (fun q => ?_)
  · have hi' : i < ws.length := by have := of_decide_eq_true q; omega
    obtain ⟨b, o, rfl, _⟩ := hv.ptr (by rw [hlen]; omega)
    have hd : (ws.drop i).any p = (p ws[i] || (ws.drop (i + 1)).any p) := by rw [List.drop_eq_getElem_cons hi', List.any_cons]
    rw [hd] at ho
    (repeat (first | ((with_reducible apply t_run); exact rfl) | ((with_reducible apply t_p); exact rfl; exact rfl) | ((with_reducible apply t_gr); exact rfl) | ((with_reducible apply t_ge); exact rfl) | ((with_reducible apply t_ld); exact rfl; exact rfl; (repeat (first | with_reducible exact Pk.h | with_reducible apply Pk.t)); exact rfl) | ((with_reducible apply t_st); exact rfl; exact rfl; exact rfl; (repeat (first | with_reducible exact Pk.h | with_reducible apply Pk.t)); exact rfl; exact rfl; exact Nat.le_of_ble_eq_true rfl; exact rfl; (repeat (first | apply rk_nil | (apply rk_skip; exact rfl) | (apply rk_ld; exact rfl; (repeat (first | with_reducible exact Pk.h | with_reducible apply Pk.t)); exact rfl)))) | ((with_reducible apply t_nx F48.k); exact rfl; exact rfl) | with_reducible apply m_seq | (with_reducible apply m_reg mix) | with_reducible apply m_block | ((with_reducible apply m_ct); exact rfl) | ((with_reducible apply m_cf); exact rfl) | ((with_reducible apply m_skn); exact rfl) | ((with_reducible apply m_exn); exact rfl)))
    refine t_ia i rfl rfl rfl hi' ?_
    refine t_la rfl rfl (R := R) (by repeat (first | with_reducible exact Pk.h | with_reducible apply Pk.t)) (hv.at (by decide) (i := i) (x := ws[i].cells) (by simp [wcs, hi'])) ?_
    (repeat (first | ((with_reducible apply t_run); exact rfl) | ((with_reducible apply t_p); exact rfl; exact rfl) | ((with_reducible apply t_gr); exact rfl) | ((with_reducible apply t_ge); exact rfl) | ((with_reducible apply t_ld); exact rfl; exact rfl; (repeat (first | with_reducible exact Pk.h | with_reducible apply Pk.t)); exact rfl) | ((with_reducible apply t_st); exact rfl; exact rfl; exact rfl; (repeat (first | with_reducible exact Pk.h | with_reducible apply Pk.t)); exact rfl; exact rfl; exact Nat.le_of_ble_eq_true rfl; exact rfl; (repeat (first | apply rk_nil | (apply rk_skip; exact rfl) | (apply rk_ld; exact rfl; (repeat (first | with_reducible exact Pk.h | with_reducible apply Pk.t)); exact rfl)))) | ((with_reducible apply t_nx F48.k); exact rfl; exact rfl) | with_reducible apply m_seq | (with_reducible apply m_reg mix) | with_reducible apply m_block | ((with_reducible apply m_ct); exact rfl) | ((with_reducible apply m_cf); exact rfl) | ((with_reducible apply m_skn); exact rfl) | ((with_reducible apply m_exn); exact rfl)))
    refine t_cv rfl rfl rfl rfl hb (hf ws[i] (List.getElem_mem hi')) (by repeat (first | apply Sx.nil | apply Pk.h | apply Sx.cons | apply Pk.t)) ?_
    rintro _ _ ⟨rfl, rfl⟩
    refine ⟨?_, ?_⟩ <;> (try dsimp only [List.cons_append, List.nil_append])
    · (repeat (first | apply rk_nil | (apply rk_skip; exact rfl) | (apply rk_ld; exact rfl; (repeat (first | with_reducible exact Pk.h | with_reducible apply Pk.t)); exact rfl)))
    (repeat (first | ((with_reducible apply t_run); exact rfl) | ((with_reducible apply t_p); exact rfl; exact rfl) | ((with_reducible apply t_gr); exact rfl) | ((with_reducible apply t_ge); exact rfl) | ((with_reducible apply t_ld); exact rfl; exact rfl; (repeat (first | with_reducible exact Pk.h | with_reducible apply Pk.t)); exact rfl) | ((with_reducible apply t_st); exact rfl; exact rfl; exact rfl; (repeat (first | with_reducible exact Pk.h | with_reducible apply Pk.t)); exact rfl; exact rfl; exact Nat.le_of_ble_eq_true rfl; exact rfl; (repeat (first | apply rk_nil | (apply rk_skip; exact rfl) | (apply rk_ld; exact rfl; (repeat (first | with_reducible exact Pk.h | with_reducible apply Pk.t)); exact rfl)))) | ((with_reducible apply t_nx F48.k); exact rfl; exact rfl) | with_reducible apply m_seq | (with_reducible apply m_reg mix) | with_reducible apply m_block | ((with_reducible apply m_ct); exact rfl) | ((with_reducible apply m_cf); exact rfl) | ((with_reducible apply m_skn); exact rfl) | ((with_reducible apply m_exn); exact rfl)))
    refine m_cond rfl (fun q2 => ?_) (fun q2 => ?_)
    · (repeat (first | ((with_reducible apply t_run); exact rfl) | ((with_reducible apply t_p); exact rfl; exact rfl) | ((with_reducible apply t_gr); exact rfl) | ((with_reducible apply t_ge); exact rfl) | ((with_reducible apply t_ld); exact rfl; exact rfl; (repeat (first | with_reducible exact Pk.h | with_reducible apply Pk.t)); exact rfl) | ((with_reducible apply t_st); exact rfl; exact rfl; exact rfl; (repeat (first | with_reducible exact Pk.h | with_reducible apply Pk.t)); exact rfl; exact rfl; exact Nat.le_of_ble_eq_true rfl; exact rfl; (repeat (first | apply rk_nil | (apply rk_skip; exact rfl) | (apply rk_ld; exact rfl; (repeat (first | with_reducible exact Pk.h | with_reducible apply Pk.t)); exact rfl)))) | ((with_reducible apply t_nx F48.k); exact rfl; exact rfl) | with_reducible apply m_seq | (with_reducible apply m_reg mix) | with_reducible apply m_block | ((with_reducible apply m_ct); exact rfl) | ((with_reducible apply m_cf); exact rfl) | ((with_reducible apply m_skn); exact rfl) | ((with_reducible apply m_exn); exact rfl)))
      rw [q2, Bool.true_or] at ho
      apply m_ret
      · rfl
      · (repeat (first | apply rs_nil | (apply rs_tmp; exact rfl) | (apply rs_cell; exact rfl; (repeat (first | with_reducible exact Pk.h | with_reducible apply Pk.t)); exact rfl)))
      · exact ⟨⟨_, rfl, by rw [← ho]; simp⟩, rfl⟩
      · exact (by repeat (first | apply Sx.nil | apply Pk.h | apply Sx.cons | apply Pk.t))
    · (repeat (first | ((with_reducible apply t_run); exact rfl) | ((with_reducible apply t_p); exact rfl; exact rfl) | ((with_reducible apply t_gr); exact rfl) | ((with_reducible apply t_ge); exact rfl) | ((with_reducible apply t_ld); exact rfl; exact rfl; (repeat (first | with_reducible exact Pk.h | with_reducible apply Pk.t)); exact rfl) | ((with_reducible apply t_st); exact rfl; exact rfl; exact rfl; (repeat (first | with_reducible exact Pk.h | with_reducible apply Pk.t)); exact rfl; exact rfl; exact Nat.le_of_ble_eq_true rfl; exact rfl; (repeat (first | apply rk_nil | (apply rk_skip; exact rfl) | (apply rk_ld; exact rfl; (repeat (first | with_reducible exact Pk.h | with_reducible apply Pk.t)); exact rfl)))) | ((with_reducible apply t_nx F48.k); exact rfl; exact rfl) | with_reducible apply m_seq | (with_reducible apply m_reg mix) | with_reducible apply m_block | ((with_reducible apply m_ct); exact rfl) | ((with_reducible apply m_cf); exact rfl) | ((with_reducible apply m_skn); exact rfl) | ((with_reducible apply m_exn); exact rfl)))
      rw [q2, Bool.false_or] at ho
      refine t_meet rfl (i + 1) ⟨⟨by omega, ho⟩, by omega⟩ [8, 0, 1, 7] ?_ (by repeat (first | apply Sx.nil | apply Pk.h | apply Sx.cons | apply Pk.t))
      rw [wrap_nat (by omega)]
      rfl
  · have hi' : i = ws.length := by have := of_decide_eq_false q; omega
    (repeat (first | ((with_reducible apply t_run); exact rfl) | ((with_reducible apply t_p); exact rfl; exact rfl) | ((with_reducible apply t_gr); exact rfl) | ((with_reducible apply t_ge); exact rfl) | ((with_reducible apply t_ld); exact rfl; exact rfl; (repeat (first | with_reducible exact Pk.h | with_reducible apply Pk.t)); exact rfl) | ((with_reducible apply t_st); exact rfl; exact rfl; exact rfl; (repeat (first | with_reducible exact Pk.h | with_reducible apply Pk.t)); exact rfl; exact rfl; exact Nat.le_of_ble_eq_true rfl; exact rfl; (repeat (first | apply rk_nil | (apply rk_skip; exact rfl) | (apply rk_ld; exact rfl; (repeat (first | with_reducible exact Pk.h | with_reducible apply Pk.t)); exact rfl)))) | ((with_reducible apply t_nx F48.k); exact rfl; exact rfl) | with_reducible apply m_seq | (with_reducible apply m_reg mix) | with_reducible apply m_block | ((with_reducible apply m_ct); exact rfl) | ((with_reducible apply m_cf); exact rfl) | ((with_reducible apply m_skn); exact rfl) | ((with_reducible apply m_exn); exact rfl)))
    subst hi'
    rw [List.drop_length, List.any_nil] at ho
    apply m_ret
    · rfl
    · (repeat (first | apply rs_nil | (apply rs_tmp; exact rfl) | (apply rs_cell; exact rfl; (repeat (first | with_reducible exact Pk.h | with_reducible apply Pk.t)); exact rfl)))
    · exact ⟨⟨_, rfl, by rw [← ho]; rfl⟩, rfl⟩
    · exact (by repeat (first | apply Sx.nil | apply Pk.h | apply Sx.cons | apply Pk.t))

theorem ContainsFunc_spec (R Q : HP) (v : Value) (ws : List Wr) (f : Nat) (cap : Value) (p : Wr → Bool) (hv : RdS R 3 v (wcs ws)) (hl : ws.length < 9223372036854775808) (hb : Bd Try.prog f)
    (hf : ∀ w ∈ ws, Fsp Try.prog f [w.V, cap] [Q] fun u aa' => u = .bool (p w) ∧ aa' = [Q]) :
    Fsp Try.prog 31 [v, .func (.func f) #[] #[cap]] [R, Q] fun u aa' => u = .bool (ws.any p) ∧ aa' = [R, Q] := by
  obtain ⟨a, c, rfl⟩ := hv.len
  refine spec_of F31.ok rfl fun gl X => ?_
  dsimp only [List.cons_append, List.nil_append]
  (repeat (first | ((with_reducible apply t_run); exact rfl) | ((with_reducible apply t_p); exact rfl; exact rfl) | ((with_reducible apply t_gr); exact rfl) | ((with_reducible apply t_ge); exact rfl) | ((with_reducible apply t_ld); exact rfl; exact rfl; (repeat (first | with_reducible exact Pk.h | with_reducible apply Pk.t)); exact rfl) | ((with_reducible apply t_st); exact rfl; exact rfl; exact rfl; (repeat (first | with_reducible exact Pk.h | with_reducible apply Pk.t)); exact rfl; exact rfl; exact Nat.le_of_ble_eq_true rfl; exact rfl; (repeat (first | apply rk_nil | (apply rk_skip; exact rfl) | (apply rk_ld; exact rfl; (repeat (first | with_reducible exact Pk.h | with_reducible apply Pk.t)); exact rfl)))) | ((with_reducible apply t_nx F31.k); exact rfl; exact rfl) | with_reducible apply m_seq | (with_reducible apply m_reg mix) | with_reducible apply m_block | ((with_reducible apply m_ct); exact rfl) | ((with_reducible apply m_cf); exact rfl) | ((with_reducible apply m_skn); exact rfl) | ((with_reducible apply m_exn); exact rfl)))
  refine t_cl rfl rfl (IndexFunc_spec R Q _ ws f cap p hv hl hb hf) (by repeat (first | apply Sx.nil | apply Pk.h | apply Sx.cons | apply Pk.t)) ?_
  rintro _ _ ⟨⟨j, rfl, hj⟩, rfl⟩
  refine ⟨?_, ?_⟩ <;> (try dsimp only [List.cons_append, List.nil_append])
  · (repeat (first | apply rk_nil | (apply rk_skip; exact rfl) | (apply rk_ld; exact rfl; (repeat (first | with_reducible exact Pk.h | with_reducible apply Pk.t)); exact rfl)))
  (repeat (first | ((with_reducible apply t_run); exact rfl) | ((with_reducible apply t_p); exact rfl; exact rfl) | ((with_reducible apply t_gr); exact rfl) | ((with_reducible apply t_ge); exact rfl) | ((with_reducible apply t_ld); exact rfl; exact rfl; (repeat (first | with_reducible exact Pk.h | with_reducible apply Pk.t)); exact rfl) | ((with_reducible apply t_st); exact rfl; exact rfl; exact rfl; (repeat (first | with_reducible exact Pk.h | with_reducible apply Pk.t)); exact rfl; exact rfl; exact Nat.le_of_ble_eq_true rfl; exact rfl; (repeat (first | apply rk_nil | (apply rk_skip; exact rfl) | (apply rk_ld; exact rfl; (repeat (first | with_reducible exact Pk.h | with_reducible apply Pk.t)); exact rfl)))) | ((with_reducible apply t_nx F31.k); exact rfl; exact rfl) | with_reducible apply m_seq | (with_reducible apply m_reg mix) | with_reducible apply m_block | ((with_reducible apply m_ct); exact rfl) | ((with_reducible apply m_cf); exact rfl) | ((with_reducible apply m_skn); exact rfl) | ((with_reducible apply m_exn); exact rfl)))
  apply m_ret
  · rfl
  · (repeat (first | apply rs_nil | (apply rs_tmp; exact rfl) | (apply rs_cell; exact rfl; (repeat (first | with_reducible exact Pk.h | with_reducible apply Pk.t)); exact rfl)))
  · exact ⟨by rw [← hj]; rfl, rfl⟩
  · exact (by repeat (first | apply Sx.nil | apply Pk.h | apply Sx.cons | apply Pk.t))
end Go.Proofs.Ythcbefkgfhokoaa

/- Writes that may be laid. -/
namespace Go.Proofs.Ythcbefkgfhokoaa
open Go Go.Dv
set_option maxRecDepth 100000
attribute [local irreducible] HTh HM En Fsp TrA Cl MpA OwS RdS MpO

def zOf (P : Program) (t : TypeId) : Option Value := (P.info? t).bind (·.zero)
theorem zrun {P : Program} {t : TypeId} {z : Value} (h : zOf P t = some z) (w : World) : (zeroValue t).run P w = .ok z w := by
  unfold zOf at h
  cases hi : P.info? t with
  | none => rw [hi] at h; cases h
  | some i =>
    rw [hi] at h
    simp only [Option.bind_some] at h
    simp [zeroValue, typeInfo, hi, h]
theorem und9 : Try.prog.underlying 9 = some .string := by kernel_rfl
theorem und84 : Try.prog.underlying 84 = some (.map 9 4) := by kernel_rfl
theorem z4 : zOf Try.prog 4 = some (.bool false) := by kernel_rfl
theorem kstr : Maps.Keyed Try.prog 9 := Maps.string_keyed und9
theorem keyOk9 {s : ByteArray} (h : s.size ≤ maxLen) : keyOk Try.prog 9 (.string s) := by
  simp [keyOk, keyOf, mapKey, h]

def okW (n : Nat) (w : Wr) : Bool := !decide ((n : Int) > 16) && keyR w.key && !decide ((w.val.size : Int) > 256) && (!w.dead || decide (w.val = emp))
def hasK (seen : List ByteArray) (k : ByteArray) : Bool := seen.any fun x => decide (x = k)
theorem hasK_iff {seen : List ByteArray} {k : ByteArray} : hasK seen k = true ↔ k ∈ seen := by
  simp only [hasK, List.any_eq_true, decide_eq_true_iff]
  exact ⟨fun ⟨x, h1, h2⟩ => h2 ▸ h1, fun h => ⟨k, h, rfl⟩⟩
def goR (n : Nat) : List ByteArray → List Wr → Bool
  | _, [] => true
  | seen, w :: ws => if okW n w && !hasK seen w.key then goR n (seen ++ [w.key]) ws else false
def rightL (ws : List Wr) : Bool := goR ws.length [] ws && decide (0 < ws.length)
theorem goR_drop {n : Nat} {seen : List ByteArray} {ws : List Wr} {i : Nat} (hi : i < ws.length) : goR n seen (ws.drop i) = if okW n ws[i] && !hasK seen ws[i].key then goR n (seen ++ [ws[i].key]) (ws.drop (i + 1)) else false := by
  rw [List.drop_eq_getElem_cons hi]; rfl
def seenL (seen : List ByteArray) : List (Value × Value) := seen.map fun k => (.string k, .bool true)
theorem keyR_small {k : ByteArray} (h : keyR k = true) : k.size ≤ maxLen := by
  unfold keyR at h
  cases hq : decide (1 ≤ (k.size : Int)) with
  | false => rw [hq] at h; cases h
  | true =>
    rw [hq] at h
    have : (k.size : Int) ≤ 32 := by simpa using h
    simp [maxLen]; omega

theorem seen_look (seen : List ByteArray) (k : ByteArray) : ((∀ x ∈ seenL seen, x.1 ≠ Value.string k) ∧ Value.bool (hasK seen k) = .bool false) ∨ (Value.string k, Value.bool (hasK seen k)) ∈ seenL seen := by
  cases hc : hasK seen k with
  | true =>
    right
    exact List.mem_map.2 ⟨k, hasK_iff.1 hc, rfl⟩
  | false =>
    left
    refine ⟨?_, rfl⟩
    rintro x hx he
    obtain ⟨y, hy, rfl⟩ := List.mem_map.1 hx
    simp only [Value.string.injEq] at he
    subst he
    rw [hasK_iff.2 hy] at hc; cases hc
theorem seen_new {seen : List ByteArray} {k : ByteArray} (hc : hasK seen k = false) : ∀ x ∈ seenL seen, x.1 ≠ Value.string k := by
  rcases seen_look seen k with h | h
  · exact h.1
  · rw [hc] at h
    obtain ⟨y, hy, he⟩ := List.mem_map.1 h
    simp at he
theorem RightL_spec (R : HP) (v : Value) (ws : List Wr) (hv : RdS R 3 v (wcs ws)) (hl : ws.length < 9223372036854775808) :
    Fsp Try.prog 15 [v] [R] fun u aa' => u = .bool (rightL ws) ∧ aa' = [R] := by
  obtain ⟨a, c, rfl⟩ := hv.len
  have hlen := wcs_len ws
  rw [hlen] at hv ⊢
  refine spec_of F15.ok rfl fun gl X => ?_
  dsimp only [List.cons_append, List.nil_append]
  (repeat (first | ((with_reducible apply t_run); exact rfl) | ((with_reducible apply t_p); exact rfl; exact rfl) | ((with_reducible apply t_gr); exact rfl) | ((with_reducible apply t_ge); exact rfl) | ((with_reducible apply t_ld); exact rfl; exact rfl; (repeat (first | with_reducible exact Pk.h | with_reducible apply Pk.t)); exact rfl) | ((with_reducible apply t_st); exact rfl; exact rfl; exact rfl; (repeat (first | with_reducible exact Pk.h | with_reducible apply Pk.t)); exact rfl; exact rfl; exact Nat.le_of_ble_eq_true rfl; exact rfl; (repeat (first | apply rk_nil | (apply rk_skip; exact rfl) | (apply rk_ld; exact rfl; (repeat (first | with_reducible exact Pk.h | with_reducible apply Pk.t)); exact rfl)))) | ((with_reducible apply t_nx F15.k); exact rfl; exact rfl) | with_reducible apply m_seq | (with_reducible apply m_reg mix) | with_reducible apply m_block | ((with_reducible apply m_ct); exact rfl) | ((with_reducible apply m_cf); exact rfl) | ((with_reducible apply m_skn); exact rfl) | ((with_reducible apply m_exn); exact rfl)))
  refine t_mkm 9 rfl fun hb => ⟨(by (repeat (first | apply rk_nil | (apply rk_skip; exact rfl) | (apply rk_ld; exact rfl; (repeat (first | with_reducible exact Pk.h | with_reducible apply Pk.t)); exact rfl)))), ?_⟩
  (repeat (first | ((with_reducible apply t_run); exact rfl) | ((with_reducible apply t_p); exact rfl; exact rfl) | ((with_reducible apply t_gr); exact rfl) | ((with_reducible apply t_ge); exact rfl) | ((with_reducible apply t_ld); exact rfl; exact rfl; (repeat (first | with_reducible exact Pk.h | with_reducible apply Pk.t)); exact rfl) | ((with_reducible apply t_st); exact rfl; exact rfl; exact rfl; (repeat (first | with_reducible exact Pk.h | with_reducible apply Pk.t)); exact rfl; exact rfl; exact Nat.le_of_ble_eq_true rfl; exact rfl; (repeat (first | apply rk_nil | (apply rk_skip; exact rfl) | (apply rk_ld; exact rfl; (repeat (first | with_reducible exact Pk.h | with_reducible apply Pk.t)); exact rfl)))) | ((with_reducible apply t_nx F15.k); exact rfl; exact rfl) | with_reducible apply m_seq | (with_reducible apply m_reg mix) | with_reducible apply m_block | ((with_reducible apply m_ct); exact rfl) | ((with_reducible apply m_cf); exact rfl) | ((with_reducible apply m_skn); exact rfl) | ((with_reducible apply m_exn); exact rfl)))
  refine m_lp (α := Nat × List ByteArray) (fun z => [(9, .int .i64 (z.1 : Nat)), (0, .slice a ws.length c), (3, .map (some hb)), (7, .slice a ws.length c), (8, .int .i64 (ws.length : Nat))]) (fun z => [R, MpO Try.prog 9 hb (seenL z.2), X]) (fun z => z.1 ≤ ws.length ∧ goR ws.length z.2 (ws.drop z.1) = goR ws.length [] ws) (fun z => ws.length - z.1) ?_ (0, []) ⟨by simp, rfl⟩ [9, 0, 3, 7, 8] rfl (by repeat (first | apply Sx.nil | apply Pk.h | apply Sx.cons | apply Pk.t))
  rintro ⟨i, seen⟩ ⟨hi, ho⟩
  dsimp only at hi ho ⊢
  (repeat (first | ((with_reducible apply t_run); exact rfl) | ((with_reducible apply t_p); exact rfl; exact rfl) | ((with_reducible apply t_gr); exact rfl) | ((with_reducible apply t_ge); exact rfl) | ((with_reducible apply t_ld); exact rfl; exact rfl; (repeat (first | with_reducible exact Pk.h | with_reducible apply Pk.t)); exact rfl) | ((with_reducible apply t_st); exact rfl; exact rfl; exact rfl; (repeat (first | with_reducible exact Pk.h | with_reducible apply Pk.t)); exact rfl; exact rfl; exact Nat.le_of_ble_eq_true rfl; exact rfl; (repeat (first | apply rk_nil | (apply rk_skip; exact rfl) | (apply rk_ld; exact rfl; (repeat (first | with_reducible exact Pk.h | with_reducible apply Pk.t)); exact rfl)))) | ((with_reducible apply t_nx F15.k); exact rfl; exact rfl) | with_reducible apply m_seq | (with_reducible apply m_reg mix) | with_reducible apply m_block | ((with_reducible apply m_ct); exact rfl) | ((with_reducible apply m_cf); exact rfl) | ((with_reducible apply m_skn); exact rfl) | ((with_reducible apply m_exn); exact rfl)))
  refine m_cond rfl (fun q => ?_) (fun q => ?_)
  · have hi' : i < ws.length := by have := of_decide_eq_true q; omega
    obtain ⟨b, o, rfl, _⟩ := hv.ptr (by rw [hlen]; omega)
    rw [goR_drop hi'] at ho
    (repeat (first | ((with_reducible apply t_run); exact rfl) | ((with_reducible apply t_p); exact rfl; exact rfl) | ((with_reducible apply t_gr); exact rfl) | ((with_reducible apply t_ge); exact rfl) | ((with_reducible apply t_ld); exact rfl; exact rfl; (repeat (first | with_reducible exact Pk.h | with_reducible apply Pk.t)); exact rfl) | ((with_reducible apply t_st); exact rfl; exact rfl; exact rfl; (repeat (first | with_reducible exact Pk.h | with_reducible apply Pk.t)); exact rfl; exact rfl; exact Nat.le_of_ble_eq_true rfl; exact rfl; (repeat (first | apply rk_nil | (apply rk_skip; exact rfl) | (apply rk_ld; exact rfl; (repeat (first | with_reducible exact Pk.h | with_reducible apply Pk.t)); exact rfl)))) | ((with_reducible apply t_nx F15.k); exact rfl; exact rfl) | with_reducible apply m_seq | (with_reducible apply m_reg mix) | with_reducible apply m_block | ((with_reducible apply m_ct); exact rfl) | ((with_reducible apply m_cf); exact rfl) | ((with_reducible apply m_skn); exact rfl) | ((with_reducible apply m_exn); exact rfl)))
    refine t_ia i rfl rfl rfl hi' ?_
    refine t_la rfl rfl (R := R) (by repeat (first | with_reducible exact Pk.h | with_reducible apply Pk.t)) (hv.at (by decide) (i := i) (x := ws[i].cells) (by simp [wcs, hi'])) ?_
    generalize ws[i] = w at ho ⊢
    obtain ⟨wk, wv, wd⟩ := w
    simp only [Wr.cells]
    refine t_al rfl fun b5 => ⟨(by (repeat (first | apply rk_nil | (apply rk_skip; exact rfl) | (apply rk_ld; exact rfl; (repeat (first | with_reducible exact Pk.h | with_reducible apply Pk.t)); exact rfl)))), ?_⟩
    (repeat (first | ((with_reducible apply t_run); exact rfl) | ((with_reducible apply t_p); exact rfl; exact rfl) | ((with_reducible apply t_gr); exact rfl) | ((with_reducible apply t_ge); exact rfl) | ((with_reducible apply t_ld); exact rfl; exact rfl; (repeat (first | with_reducible exact Pk.h | with_reducible apply Pk.t)); exact rfl) | ((with_reducible apply t_st); exact rfl; exact rfl; exact rfl; (repeat (first | with_reducible exact Pk.h | with_reducible apply Pk.t)); exact rfl; exact rfl; exact Nat.le_of_ble_eq_true rfl; exact rfl; (repeat (first | apply rk_nil | (apply rk_skip; exact rfl) | (apply rk_ld; exact rfl; (repeat (first | with_reducible exact Pk.h | with_reducible apply Pk.t)); exact rfl)))) | ((with_reducible apply t_nx F15.k); exact rfl; exact rfl) | with_reducible apply m_seq | (with_reducible apply m_reg mix) | with_reducible apply m_block | ((with_reducible apply m_ct); exact rfl) | ((with_reducible apply m_cf); exact rfl) | ((with_reducible apply m_skn); exact rfl) | ((with_reducible apply m_exn); exact rfl)))
    refine t_spl 16 rfl (fun q1 => ?_) (fun q1 => ?_)
    · (repeat (first | ((with_reducible apply t_run); exact rfl) | ((with_reducible apply t_p); exact rfl; exact rfl) | ((with_reducible apply t_gr); exact rfl) | ((with_reducible apply t_ge); exact rfl) | ((with_reducible apply t_ld); exact rfl; exact rfl; (repeat (first | with_reducible exact Pk.h | with_reducible apply Pk.t)); exact rfl) | ((with_reducible apply t_st); exact rfl; exact rfl; exact rfl; (repeat (first | with_reducible exact Pk.h | with_reducible apply Pk.t)); exact rfl; exact rfl; exact Nat.le_of_ble_eq_true rfl; exact rfl; (repeat (first | apply rk_nil | (apply rk_skip; exact rfl) | (apply rk_ld; exact rfl; (repeat (first | with_reducible exact Pk.h | with_reducible apply Pk.t)); exact rfl)))) | ((with_reducible apply t_nx F15.k); exact rfl; exact rfl) | with_reducible apply m_seq | (with_reducible apply m_reg mix) | with_reducible apply m_block | ((with_reducible apply m_ct); exact rfl) | ((with_reducible apply m_cf); exact rfl) | ((with_reducible apply m_skn); exact rfl) | ((with_reducible apply m_exn); exact rfl)))
      have hf : rightL ws = false := by rw [rightL, ← ho]; simp [okW, q1]
      rw [hf]
      apply m_ret
      · rfl
      · (repeat (first | apply rs_nil | (apply rs_tmp; exact rfl) | (apply rs_cell; exact rfl; (repeat (first | with_reducible exact Pk.h | with_reducible apply Pk.t)); exact rfl)))
      · exact ⟨rfl, rfl⟩
      · exact (by repeat (first | apply Sx.nil | apply Pk.h | apply Sx.cons | apply Pk.t))
    (repeat (first | ((with_reducible apply t_run); exact rfl) | ((with_reducible apply t_p); exact rfl; exact rfl) | ((with_reducible apply t_gr); exact rfl) | ((with_reducible apply t_ge); exact rfl) | ((with_reducible apply t_ld); exact rfl; exact rfl; (repeat (first | with_reducible exact Pk.h | with_reducible apply Pk.t)); exact rfl) | ((with_reducible apply t_st); exact rfl; exact rfl; exact rfl; (repeat (first | with_reducible exact Pk.h | with_reducible apply Pk.t)); exact rfl; exact rfl; exact Nat.le_of_ble_eq_true rfl; exact rfl; (repeat (first | apply rk_nil | (apply rk_skip; exact rfl) | (apply rk_ld; exact rfl; (repeat (first | with_reducible exact Pk.h | with_reducible apply Pk.t)); exact rfl)))) | ((with_reducible apply t_nx F15.k); exact rfl; exact rfl) | with_reducible apply m_seq | (with_reducible apply m_reg mix) | with_reducible apply m_block | ((with_reducible apply m_ct); exact rfl) | ((with_reducible apply m_cf); exact rfl) | ((with_reducible apply m_skn); exact rfl) | ((with_reducible apply m_exn); exact rfl)))
    refine t_cl rfl rfl (key_spec wk) (by repeat (first | apply Sx.nil | apply Pk.h | apply Sx.cons | apply Pk.t)) ?_
    rintro _ _ ⟨rfl, rfl⟩
    refine ⟨?_, ?_⟩ <;> (try dsimp only [List.cons_append, List.nil_append])
    · (repeat (first | apply rk_nil | (apply rk_skip; exact rfl) | (apply rk_ld; exact rfl; (repeat (first | with_reducible exact Pk.h | with_reducible apply Pk.t)); exact rfl)))
    (repeat (first | ((with_reducible apply t_run); exact rfl) | ((with_reducible apply t_p); exact rfl; exact rfl) | ((with_reducible apply t_gr); exact rfl) | ((with_reducible apply t_ge); exact rfl) | ((with_reducible apply t_ld); exact rfl; exact rfl; (repeat (first | with_reducible exact Pk.h | with_reducible apply Pk.t)); exact rfl) | ((with_reducible apply t_st); exact rfl; exact rfl; exact rfl; (repeat (first | with_reducible exact Pk.h | with_reducible apply Pk.t)); exact rfl; exact rfl; exact Nat.le_of_ble_eq_true rfl; exact rfl; (repeat (first | apply rk_nil | (apply rk_skip; exact rfl) | (apply rk_ld; exact rfl; (repeat (first | with_reducible exact Pk.h | with_reducible apply Pk.t)); exact rfl)))) | ((with_reducible apply t_nx F15.k); exact rfl; exact rfl) | with_reducible apply m_seq | (with_reducible apply m_reg mix) | with_reducible apply m_block | ((with_reducible apply m_ct); exact rfl) | ((with_reducible apply m_cf); exact rfl) | ((with_reducible apply m_skn); exact rfl) | ((with_reducible apply m_exn); exact rfl)))
    refine t_spl 22 rfl (fun q2 => ?_) (fun q2 => ?_)
    · (repeat (first | ((with_reducible apply t_run); exact rfl) | ((with_reducible apply t_p); exact rfl; exact rfl) | ((with_reducible apply t_gr); exact rfl) | ((with_reducible apply t_ge); exact rfl) | ((with_reducible apply t_ld); exact rfl; exact rfl; (repeat (first | with_reducible exact Pk.h | with_reducible apply Pk.t)); exact rfl) | ((with_reducible apply t_st); exact rfl; exact rfl; exact rfl; (repeat (first | with_reducible exact Pk.h | with_reducible apply Pk.t)); exact rfl; exact rfl; exact Nat.le_of_ble_eq_true rfl; exact rfl; (repeat (first | apply rk_nil | (apply rk_skip; exact rfl) | (apply rk_ld; exact rfl; (repeat (first | with_reducible exact Pk.h | with_reducible apply Pk.t)); exact rfl)))) | ((with_reducible apply t_nx F15.k); exact rfl; exact rfl) | with_reducible apply m_seq | (with_reducible apply m_reg mix) | with_reducible apply m_block | ((with_reducible apply m_ct); exact rfl) | ((with_reducible apply m_cf); exact rfl) | ((with_reducible apply m_skn); exact rfl) | ((with_reducible apply m_exn); exact rfl)))
      have hf : rightL ws = false := by rw [rightL, ← ho]; simp [okW, (by simpa using q2 : keyR wk = false)]
      rw [hf]
      apply m_ret
      · rfl
      · (repeat (first | apply rs_nil | (apply rs_tmp; exact rfl) | (apply rs_cell; exact rfl; (repeat (first | with_reducible exact Pk.h | with_reducible apply Pk.t)); exact rfl)))
      · exact ⟨rfl, rfl⟩
      · exact (by repeat (first | apply Sx.nil | apply Pk.h | apply Sx.cons | apply Pk.t))
    have q2' : keyR wk = true := by simpa using q2
    (repeat (first | ((with_reducible apply t_run); exact rfl) | ((with_reducible apply t_p); exact rfl; exact rfl) | ((with_reducible apply t_gr); exact rfl) | ((with_reducible apply t_ge); exact rfl) | ((with_reducible apply t_ld); exact rfl; exact rfl; (repeat (first | with_reducible exact Pk.h | with_reducible apply Pk.t)); exact rfl) | ((with_reducible apply t_st); exact rfl; exact rfl; exact rfl; (repeat (first | with_reducible exact Pk.h | with_reducible apply Pk.t)); exact rfl; exact rfl; exact Nat.le_of_ble_eq_true rfl; exact rfl; (repeat (first | apply rk_nil | (apply rk_skip; exact rfl) | (apply rk_ld; exact rfl; (repeat (first | with_reducible exact Pk.h | with_reducible apply Pk.t)); exact rfl)))) | ((with_reducible apply t_nx F15.k); exact rfl; exact rfl) | with_reducible apply m_seq | (with_reducible apply m_reg mix) | with_reducible apply m_block | ((with_reducible apply m_ct); exact rfl) | ((with_reducible apply m_cf); exact rfl) | ((with_reducible apply m_skn); exact rfl) | ((with_reducible apply m_exn); exact rfl)))
    refine t_spl 28 rfl (fun q3 => ?_) (fun q3 => ?_)
    · (repeat (first | ((with_reducible apply t_run); exact rfl) | ((with_reducible apply t_p); exact rfl; exact rfl) | ((with_reducible apply t_gr); exact rfl) | ((with_reducible apply t_ge); exact rfl) | ((with_reducible apply t_ld); exact rfl; exact rfl; (repeat (first | with_reducible exact Pk.h | with_reducible apply Pk.t)); exact rfl) | ((with_reducible apply t_st); exact rfl; exact rfl; exact rfl; (repeat (first | with_reducible exact Pk.h | with_reducible apply Pk.t)); exact rfl; exact rfl; exact Nat.le_of_ble_eq_true rfl; exact rfl; (repeat (first | apply rk_nil | (apply rk_skip; exact rfl) | (apply rk_ld; exact rfl; (repeat (first | with_reducible exact Pk.h | with_reducible apply Pk.t)); exact rfl)))) | ((with_reducible apply t_nx F15.k); exact rfl; exact rfl) | with_reducible apply m_seq | (with_reducible apply m_reg mix) | with_reducible apply m_block | ((with_reducible apply m_ct); exact rfl) | ((with_reducible apply m_cf); exact rfl) | ((with_reducible apply m_skn); exact rfl) | ((with_reducible apply m_exn); exact rfl)))
      have hf : rightL ws = false := by rw [rightL, ← ho]; simp [okW, q3]
      rw [hf]
      apply m_ret
      · rfl
      · (repeat (first | apply rs_nil | (apply rs_tmp; exact rfl) | (apply rs_cell; exact rfl; (repeat (first | with_reducible exact Pk.h | with_reducible apply Pk.t)); exact rfl)))
      · exact ⟨rfl, rfl⟩
      · exact (by repeat (first | apply Sx.nil | apply Pk.h | apply Sx.cons | apply Pk.t))
    cases wd with
    | false =>
      have hok : okW ws.length ⟨wk, wv, false⟩ = true := by simp [okW, q1, q2', q3]
      (repeat (first | ((with_reducible apply t_run); exact rfl) | ((with_reducible apply t_p); exact rfl; exact rfl) | ((with_reducible apply t_gr); exact rfl) | ((with_reducible apply t_ge); exact rfl) | ((with_reducible apply t_ld); exact rfl; exact rfl; (repeat (first | with_reducible exact Pk.h | with_reducible apply Pk.t)); exact rfl) | ((with_reducible apply t_st); exact rfl; exact rfl; exact rfl; (repeat (first | with_reducible exact Pk.h | with_reducible apply Pk.t)); exact rfl; exact rfl; exact Nat.le_of_ble_eq_true rfl; exact rfl; (repeat (first | apply rk_nil | (apply rk_skip; exact rfl) | (apply rk_ld; exact rfl; (repeat (first | with_reducible exact Pk.h | with_reducible apply Pk.t)); exact rfl)))) | ((with_reducible apply t_nx F15.k); exact rfl; exact rfl) | with_reducible apply m_seq | (with_reducible apply m_reg mix) | with_reducible apply m_block | ((with_reducible apply m_ct); exact rfl) | ((with_reducible apply m_cf); exact rfl) | ((with_reducible apply m_skn); exact rfl) | ((with_reducible apply m_exn); exact rfl)))
      have hlk : ((∀ x ∈ seenL seen, x.1 ≠ Value.string wk) ∧ Value.bool (hasK seen wk) = .bool false) ∨ (Value.string wk, Value.bool (hasK seen wk)) ∈ seenL seen := seen_look seen wk
      refine t_r (v := .bool (hasK seen wk)) rfl (look_rv kstr und84 (zrun z4) rfl rfl (keyOk9 (keyR_small q2')) (by repeat (first | with_reducible exact Pk.h | with_reducible apply Pk.t)) hlk) ?_
      (repeat (first | ((with_reducible apply t_run); exact rfl) | ((with_reducible apply t_p); exact rfl; exact rfl) | ((with_reducible apply t_gr); exact rfl) | ((with_reducible apply t_ge); exact rfl) | ((with_reducible apply t_ld); exact rfl; exact rfl; (repeat (first | with_reducible exact Pk.h | with_reducible apply Pk.t)); exact rfl) | ((with_reducible apply t_st); exact rfl; exact rfl; exact rfl; (repeat (first | with_reducible exact Pk.h | with_reducible apply Pk.t)); exact rfl; exact rfl; exact Nat.le_of_ble_eq_true rfl; exact rfl; (repeat (first | apply rk_nil | (apply rk_skip; exact rfl) | (apply rk_ld; exact rfl; (repeat (first | with_reducible exact Pk.h | with_reducible apply Pk.t)); exact rfl)))) | ((with_reducible apply t_nx F15.k); exact rfl; exact rfl) | with_reducible apply m_seq | (with_reducible apply m_reg mix) | with_reducible apply m_block | ((with_reducible apply m_ct); exact rfl) | ((with_reducible apply m_cf); exact rfl) | ((with_reducible apply m_skn); exact rfl) | ((with_reducible apply m_exn); exact rfl)))
      refine m_cond rfl (fun q4 => ?_) (fun q4 => ?_)
      · (repeat (first | ((with_reducible apply t_run); exact rfl) | ((with_reducible apply t_p); exact rfl; exact rfl) | ((with_reducible apply t_gr); exact rfl) | ((with_reducible apply t_ge); exact rfl) | ((with_reducible apply t_ld); exact rfl; exact rfl; (repeat (first | with_reducible exact Pk.h | with_reducible apply Pk.t)); exact rfl) | ((with_reducible apply t_st); exact rfl; exact rfl; exact rfl; (repeat (first | with_reducible exact Pk.h | with_reducible apply Pk.t)); exact rfl; exact rfl; exact Nat.le_of_ble_eq_true rfl; exact rfl; (repeat (first | apply rk_nil | (apply rk_skip; exact rfl) | (apply rk_ld; exact rfl; (repeat (first | with_reducible exact Pk.h | with_reducible apply Pk.t)); exact rfl)))) | ((with_reducible apply t_nx F15.k); exact rfl; exact rfl) | with_reducible apply m_seq | (with_reducible apply m_reg mix) | with_reducible apply m_block | ((with_reducible apply m_ct); exact rfl) | ((with_reducible apply m_cf); exact rfl) | ((with_reducible apply m_skn); exact rfl) | ((with_reducible apply m_exn); exact rfl)))
        have hf : rightL ws = false := by rw [rightL, ← ho]; simp [q4]
        rw [hf]
        apply m_ret
        · rfl
        · (repeat (first | apply rs_nil | (apply rs_tmp; exact rfl) | (apply rs_cell; exact rfl; (repeat (first | with_reducible exact Pk.h | with_reducible apply Pk.t)); exact rfl)))
        · exact ⟨rfl, rfl⟩
        · exact (by repeat (first | apply Sx.nil | apply Pk.h | apply Sx.cons | apply Pk.t))
      · (repeat (first | ((with_reducible apply t_run); exact rfl) | ((with_reducible apply t_p); exact rfl; exact rfl) | ((with_reducible apply t_gr); exact rfl) | ((with_reducible apply t_ge); exact rfl) | ((with_reducible apply t_ld); exact rfl; exact rfl; (repeat (first | with_reducible exact Pk.h | with_reducible apply Pk.t)); exact rfl) | ((with_reducible apply t_st); exact rfl; exact rfl; exact rfl; (repeat (first | with_reducible exact Pk.h | with_reducible apply Pk.t)); exact rfl; exact rfl; exact Nat.le_of_ble_eq_true rfl; exact rfl; (repeat (first | apply rk_nil | (apply rk_skip; exact rfl) | (apply rk_ld; exact rfl; (repeat (first | with_reducible exact Pk.h | with_reducible apply Pk.t)); exact rfl)))) | ((with_reducible apply t_nx F15.k); exact rfl; exact rfl) | with_reducible apply m_seq | (with_reducible apply m_reg mix) | with_reducible apply m_block | ((with_reducible apply m_ct); exact rfl) | ((with_reducible apply m_cf); exact rfl) | ((with_reducible apply m_skn); exact rfl) | ((with_reducible apply m_exn); exact rfl)))
        rw [hok, q4] at ho
        simp only [Bool.not_false, Bool.and_self, if_true] at ho
        refine t_ups kstr und84 rfl rfl rfl rfl (keyOk9 (keyR_small q2')) (by repeat (first | with_reducible exact Pk.h | with_reducible apply Pk.t)) (seen_new q4) ⟨(by (repeat (first | apply rk_nil | (apply rk_skip; exact rfl) | (apply rk_ld; exact rfl; (repeat (first | with_reducible exact Pk.h | with_reducible apply Pk.t)); exact rfl)))), ?_⟩
        refine en_x (MpO Try.prog 9 hb (seenL (seen ++ [wk]))) (x := MpO Try.prog 9 hb (seenL seen ++ [(Value.string wk, Value.bool true)])) (by repeat (first | with_reducible exact Pk.h | with_reducible apply Pk.t)) (by simp [seenL]) ?_
        (repeat (first | ((with_reducible apply t_run); exact rfl) | ((with_reducible apply t_p); exact rfl; exact rfl) | ((with_reducible apply t_gr); exact rfl) | ((with_reducible apply t_ge); exact rfl) | ((with_reducible apply t_ld); exact rfl; exact rfl; (repeat (first | with_reducible exact Pk.h | with_reducible apply Pk.t)); exact rfl) | ((with_reducible apply t_st); exact rfl; exact rfl; exact rfl; (repeat (first | with_reducible exact Pk.h | with_reducible apply Pk.t)); exact rfl; exact rfl; exact Nat.le_of_ble_eq_true rfl; exact rfl; (repeat (first | apply rk_nil | (apply rk_skip; exact rfl) | (apply rk_ld; exact rfl; (repeat (first | with_reducible exact Pk.h | with_reducible apply Pk.t)); exact rfl)))) | ((with_reducible apply t_nx F15.k); exact rfl; exact rfl) | with_reducible apply m_seq | (with_reducible apply m_reg mix) | with_reducible apply m_block | ((with_reducible apply m_ct); exact rfl) | ((with_reducible apply m_cf); exact rfl) | ((with_reducible apply m_skn); exact rfl) | ((with_reducible apply m_exn); exact rfl)))
        refine t_meet rfl (i + 1, seen ++ [wk]) ⟨⟨(by simp; omega), ho⟩, (by simp; omega)⟩ [9, 0, 3, 7, 8] ?_ (by repeat (first | apply Sx.nil | apply Pk.h | apply Sx.cons | apply Pk.t))
        rw [wrap_nat (by omega)]
        rfl
    | true =>
      (repeat (first | ((with_reducible apply t_run); exact rfl) | ((with_reducible apply t_p); exact rfl; exact rfl) | ((with_reducible apply t_gr); exact rfl) | ((with_reducible apply t_ge); exact rfl) | ((with_reducible apply t_ld); exact rfl; exact rfl; (repeat (first | with_reducible exact Pk.h | with_reducible apply Pk.t)); exact rfl) | ((with_reducible apply t_st); exact rfl; exact rfl; exact rfl; (repeat (first | with_reducible exact Pk.h | with_reducible apply Pk.t)); exact rfl; exact rfl; exact Nat.le_of_ble_eq_true rfl; exact rfl; (repeat (first | apply rk_nil | (apply rk_skip; exact rfl) | (apply rk_ld; exact rfl; (repeat (first | with_reducible exact Pk.h | with_reducible apply Pk.t)); exact rfl)))) | ((with_reducible apply t_nx F15.k); exact rfl; exact rfl) | with_reducible apply m_seq | (with_reducible apply m_reg mix) | with_reducible apply m_block | ((with_reducible apply m_ct); exact rfl) | ((with_reducible apply m_cf); exact rfl) | ((with_reducible apply m_skn); exact rfl) | ((with_reducible apply m_exn); exact rfl)))
      refine t_spl 37 rfl (fun q5 => ?_) (fun q5 => ?_)
      · (repeat (first | ((with_reducible apply t_run); exact rfl) | ((with_reducible apply t_p); exact rfl; exact rfl) | ((with_reducible apply t_gr); exact rfl) | ((with_reducible apply t_ge); exact rfl) | ((with_reducible apply t_ld); exact rfl; exact rfl; (repeat (first | with_reducible exact Pk.h | with_reducible apply Pk.t)); exact rfl) | ((with_reducible apply t_st); exact rfl; exact rfl; exact rfl; (repeat (first | with_reducible exact Pk.h | with_reducible apply Pk.t)); exact rfl; exact rfl; exact Nat.le_of_ble_eq_true rfl; exact rfl; (repeat (first | apply rk_nil | (apply rk_skip; exact rfl) | (apply rk_ld; exact rfl; (repeat (first | with_reducible exact Pk.h | with_reducible apply Pk.t)); exact rfl)))) | ((with_reducible apply t_nx F15.k); exact rfl; exact rfl) | with_reducible apply m_seq | (with_reducible apply m_reg mix) | with_reducible apply m_block | ((with_reducible apply m_ct); exact rfl) | ((with_reducible apply m_cf); exact rfl) | ((with_reducible apply m_skn); exact rfl) | ((with_reducible apply m_exn); exact rfl)))
        have hf : rightL ws = false := by
          rw [rightL, ← ho]
          have : ¬ wv = emp := by simpa [emp] using q5
          simp [okW, this]
        rw [hf]
        apply m_ret
        · rfl
        · (repeat (first | apply rs_nil | (apply rs_tmp; exact rfl) | (apply rs_cell; exact rfl; (repeat (first | with_reducible exact Pk.h | with_reducible apply Pk.t)); exact rfl)))
        · exact ⟨rfl, rfl⟩
        · exact (by repeat (first | apply Sx.nil | apply Pk.h | apply Sx.cons | apply Pk.t))
      have hok : okW ws.length ⟨wk, wv, true⟩ = true := by
        have : wv = emp := by simpa [emp] using q5
        simp [okW, q1, q2', q3]
        exact this
      (repeat (first | ((with_reducible apply t_run); exact rfl) | ((with_reducible apply t_p); exact rfl; exact rfl) | ((with_reducible apply t_gr); exact rfl) | ((with_reducible apply t_ge); exact rfl) | ((with_reducible apply t_ld); exact rfl; exact rfl; (repeat (first | with_reducible exact Pk.h | with_reducible apply Pk.t)); exact rfl) | ((with_reducible apply t_st); exact rfl; exact rfl; exact rfl; (repeat (first | with_reducible exact Pk.h | with_reducible apply Pk.t)); exact rfl; exact rfl; exact Nat.le_of_ble_eq_true rfl; exact rfl; (repeat (first | apply rk_nil | (apply rk_skip; exact rfl) | (apply rk_ld; exact rfl; (repeat (first | with_reducible exact Pk.h | with_reducible apply Pk.t)); exact rfl)))) | ((with_reducible apply t_nx F15.k); exact rfl; exact rfl) | with_reducible apply m_seq | (with_reducible apply m_reg mix) | with_reducible apply m_block | ((with_reducible apply m_ct); exact rfl) | ((with_reducible apply m_cf); exact rfl) | ((with_reducible apply m_skn); exact rfl) | ((with_reducible apply m_exn); exact rfl)))
      have hlk : ((∀ x ∈ seenL seen, x.1 ≠ Value.string wk) ∧ Value.bool (hasK seen wk) = .bool false) ∨ (Value.string wk, Value.bool (hasK seen wk)) ∈ seenL seen := seen_look seen wk
      refine t_r (v := .bool (hasK seen wk)) rfl (look_rv kstr und84 (zrun z4) rfl rfl (keyOk9 (keyR_small q2')) (by repeat (first | with_reducible exact Pk.h | with_reducible apply Pk.t)) hlk) ?_
      (repeat (first | ((with_reducible apply t_run); exact rfl) | ((with_reducible apply t_p); exact rfl; exact rfl) | ((with_reducible apply t_gr); exact rfl) | ((with_reducible apply t_ge); exact rfl) | ((with_reducible apply t_ld); exact rfl; exact rfl; (repeat (first | with_reducible exact Pk.h | with_reducible apply Pk.t)); exact rfl) | ((with_reducible apply t_st); exact rfl; exact rfl; exact rfl; (repeat (first | with_reducible exact Pk.h | with_reducible apply Pk.t)); exact rfl; exact rfl; exact Nat.le_of_ble_eq_true rfl; exact rfl; (repeat (first | apply rk_nil | (apply rk_skip; exact rfl) | (apply rk_ld; exact rfl; (repeat (first | with_reducible exact Pk.h | with_reducible apply Pk.t)); exact rfl)))) | ((with_reducible apply t_nx F15.k); exact rfl; exact rfl) | with_reducible apply m_seq | (with_reducible apply m_reg mix) | with_reducible apply m_block | ((with_reducible apply m_ct); exact rfl) | ((with_reducible apply m_cf); exact rfl) | ((with_reducible apply m_skn); exact rfl) | ((with_reducible apply m_exn); exact rfl)))
      refine m_cond rfl (fun q4 => ?_) (fun q4 => ?_)
      · (repeat (first | ((with_reducible apply t_run); exact rfl) | ((with_reducible apply t_p); exact rfl; exact rfl) | ((with_reducible apply t_gr); exact rfl) | ((with_reducible apply t_ge); exact rfl) | ((with_reducible apply t_ld); exact rfl; exact rfl; (repeat (first | with_reducible exact Pk.h | with_reducible apply Pk.t)); exact rfl) | ((with_reducible apply t_st); exact rfl; exact rfl; exact rfl; (repeat (first | with_reducible exact Pk.h | with_reducible apply Pk.t)); exact rfl; exact rfl; exact Nat.le_of_ble_eq_true rfl; exact rfl; (repeat (first | apply rk_nil | (apply rk_skip; exact rfl) | (apply rk_ld; exact rfl; (repeat (first | with_reducible exact Pk.h | with_reducible apply Pk.t)); exact rfl)))) | ((with_reducible apply t_nx F15.k); exact rfl; exact rfl) | with_reducible apply m_seq | (with_reducible apply m_reg mix) | with_reducible apply m_block | ((with_reducible apply m_ct); exact rfl) | ((with_reducible apply m_cf); exact rfl) | ((with_reducible apply m_skn); exact rfl) | ((with_reducible apply m_exn); exact rfl)))
        have hf : rightL ws = false := by rw [rightL, ← ho]; simp [q4]
        rw [hf]
        apply m_ret
        · rfl
        · (repeat (first | apply rs_nil | (apply rs_tmp; exact rfl) | (apply rs_cell; exact rfl; (repeat (first | with_reducible exact Pk.h | with_reducible apply Pk.t)); exact rfl)))
        · exact ⟨rfl, rfl⟩
        · exact (by repeat (first | apply Sx.nil | apply Pk.h | apply Sx.cons | apply Pk.t))
      · (repeat (first | ((with_reducible apply t_run); exact rfl) | ((with_reducible apply t_p); exact rfl; exact rfl) | ((with_reducible apply t_gr); exact rfl) | ((with_reducible apply t_ge); exact rfl) | ((with_reducible apply t_ld); exact rfl; exact rfl; (repeat (first | with_reducible exact Pk.h | with_reducible apply Pk.t)); exact rfl) | ((with_reducible apply t_st); exact rfl; exact rfl; exact rfl; (repeat (first | with_reducible exact Pk.h | with_reducible apply Pk.t)); exact rfl; exact rfl; exact Nat.le_of_ble_eq_true rfl; exact rfl; (repeat (first | apply rk_nil | (apply rk_skip; exact rfl) | (apply rk_ld; exact rfl; (repeat (first | with_reducible exact Pk.h | with_reducible apply Pk.t)); exact rfl)))) | ((with_reducible apply t_nx F15.k); exact rfl; exact rfl) | with_reducible apply m_seq | (with_reducible apply m_reg mix) | with_reducible apply m_block | ((with_reducible apply m_ct); exact rfl) | ((with_reducible apply m_cf); exact rfl) | ((with_reducible apply m_skn); exact rfl) | ((with_reducible apply m_exn); exact rfl)))
        rw [hok, q4] at ho
        simp only [Bool.not_false, Bool.and_self, if_true] at ho
        refine t_ups kstr und84 rfl rfl rfl rfl (keyOk9 (keyR_small q2')) (by repeat (first | with_reducible exact Pk.h | with_reducible apply Pk.t)) (seen_new q4) ⟨(by (repeat (first | apply rk_nil | (apply rk_skip; exact rfl) | (apply rk_ld; exact rfl; (repeat (first | with_reducible exact Pk.h | with_reducible apply Pk.t)); exact rfl)))), ?_⟩
        refine en_x (MpO Try.prog 9 hb (seenL (seen ++ [wk]))) (x := MpO Try.prog 9 hb (seenL seen ++ [(Value.string wk, Value.bool true)])) (by repeat (first | with_reducible exact Pk.h | with_reducible apply Pk.t)) (by simp [seenL]) ?_
        (repeat (first | ((with_reducible apply t_run); exact rfl) | ((with_reducible apply t_p); exact rfl; exact rfl) | ((with_reducible apply t_gr); exact rfl) | ((with_reducible apply t_ge); exact rfl) | ((with_reducible apply t_ld); exact rfl; exact rfl; (repeat (first | with_reducible exact Pk.h | with_reducible apply Pk.t)); exact rfl) | ((with_reducible apply t_st); exact rfl; exact rfl; exact rfl; (repeat (first | with_reducible exact Pk.h | with_reducible apply Pk.t)); exact rfl; exact rfl; exact Nat.le_of_ble_eq_true rfl; exact rfl; (repeat (first | apply rk_nil | (apply rk_skip; exact rfl) | (apply rk_ld; exact rfl; (repeat (first | with_reducible exact Pk.h | with_reducible apply Pk.t)); exact rfl)))) | ((with_reducible apply t_nx F15.k); exact rfl; exact rfl) | with_reducible apply m_seq | (with_reducible apply m_reg mix) | with_reducible apply m_block | ((with_reducible apply m_ct); exact rfl) | ((with_reducible apply m_cf); exact rfl) | ((with_reducible apply m_skn); exact rfl) | ((with_reducible apply m_exn); exact rfl)))
        refine t_meet rfl (i + 1, seen ++ [wk]) ⟨⟨(by simp; omega), ho⟩, (by simp; omega)⟩ [9, 0, 3, 7, 8] ?_ (by repeat (first | apply Sx.nil | apply Pk.h | apply Sx.cons | apply Pk.t))
        rw [wrap_nat (by omega)]
        rfl
  · have hi' : i = ws.length := by have := of_decide_eq_false q; omega
    (repeat (first | ((with_reducible apply t_run); exact rfl) | ((with_reducible apply t_p); exact rfl; exact rfl) | ((with_reducible apply t_gr); exact rfl) | ((with_reducible apply t_ge); exact rfl) | ((with_reducible apply t_ld); exact rfl; exact rfl; (repeat (first | with_reducible exact Pk.h | with_reducible apply Pk.t)); exact rfl) | ((with_reducible apply t_st); exact rfl; exact rfl; exact rfl; (repeat (first | with_reducible exact Pk.h | with_reducible apply Pk.t)); exact rfl; exact rfl; exact Nat.le_of_ble_eq_true rfl; exact rfl; (repeat (first | apply rk_nil | (apply rk_skip; exact rfl) | (apply rk_ld; exact rfl; (repeat (first | with_reducible exact Pk.h | with_reducible apply Pk.t)); exact rfl)))) | ((with_reducible apply t_nx F15.k); exact rfl; exact rfl) | with_reducible apply m_seq | (with_reducible apply m_reg mix) | with_reducible apply m_block | ((with_reducible apply m_ct); exact rfl) | ((with_reducible apply m_cf); exact rfl) | ((with_reducible apply m_skn); exact rfl) | ((with_reducible apply m_exn); exact rfl)))
    subst hi'
    have hf : rightL ws = decide (0 < ws.length) := by rw [rightL, ← ho, List.drop_length]; simp [goR]
    rw [hf]
    apply m_ret
    · rfl
    · (repeat (first | apply rs_nil | (apply rs_tmp; exact rfl) | (apply rs_cell; exact rfl; (repeat (first | with_reducible exact Pk.h | with_reducible apply Pk.t)); exact rfl)))
    · exact ⟨by simp [mkRes], rfl⟩
    · exact (by repeat (first | apply Sx.nil | apply Pk.h | apply Sx.cons | apply Pk.t))
end Go.Proofs.Ythcbefkgfhokoaa

/- The latch's table. -/
namespace Go.Proofs.Ythcbefkgfhokoaa
open Go Go.Dv
set_option maxRecDepth 100000

theorem laidOut : laidOutB Try.prog = true := by kernel_rfl
theorem tysz : ∃ n, Try.prog.types.size = n + 2 ∧ n + 4 ≤ 10000 := by
  refine ⟨Try.prog.types.size - 2, ?_, ?_⟩
  · have : Nat.ble 2 Try.prog.types.size = true := by kernel_rfl
    have := Nat.le_of_ble_eq_true this
    omega
  · have : Nat.ble Try.prog.types.size 9996 = true := by kernel_rfl
    have := Nat.le_of_ble_eq_true this
    omega
theorem und59 : Try.prog.underlying 59 = some (.map 25 71) := by kernel_rfl
theorem kt25 : Try.prog.keyType 25 = true := by kernel_rfl
theorem wide25 : (match Try.prog.underlying 25 with | some (.array _ _) | some (.struct _) => true | _ => false) = true := by kernel_rfl
theorem ktx : Maps.Keyed Try.prog 25 := by
  obtain ⟨n, h, h2⟩ := tysz
  refine Maps.Keyed.of_law (deep_law_gate laidOut (by omega) (k := 25) ?_ kt25 wide25)
  exact of_decide_eq_true (by kernel_rfl)
def chk25 (P : Program) : Bool := match P.underlying 25 with
  | some (.struct fs) => match fs.toList with
    | [f, g] => f.name != "_" && g.name != "_" && f.offset == 0 && g.offset == 1 && f.type == g.type && P.cellsOf f.type == 1 && P.cellsOf 25 == 2 && (match P.underlying f.type with | some (.int .u32) => true | _ => false)
    | _ => false
  | _ => false
theorem chk25_ok : chk25 Try.prog = true := by kernel_rfl
def Tx.ok (t : Tx) : Prop := (0 ≤ t.c ∧ t.c < 4294967296) ∧ (0 ≤ t.n ∧ t.n < 4294967296)
theorem keyOk25 {t : Tx} (h : t.ok) : keyOk Try.prog 25 t.V := by
  obtain ⟨c, n⟩ := t
  obtain ⟨m, hm, _⟩ := tysz
  have hc := chk25_ok
  unfold chk25 at hc
  split at hc
  · rename_i fs hu
    split at hc
    · rename_i f g hfs
      simp only [Bool.and_eq_true, beq_iff_eq] at hc
      obtain ⟨⟨⟨⟨⟨⟨⟨h1, h2⟩, h3⟩, h4⟩, h5⟩, h6⟩, h7⟩, h8⟩ := hc
      split at h8
      · rename_i hi
        have w1 : (Lit.int .u32 c).wf = true := by simp [Lit.wf, IntKind.min, IntKind.max, IntKind.bits, IntKind.signed]; have := h.1; simp at this; omega
        have w2 : (Lit.int .u32 n).wf = true := by simp [Lit.wf, IntKind.min, IntKind.max, IntKind.bits, IntKind.signed]; have := h.2; simp at this; omega
        have hall : fs.all (·.name != "_") = true := by
          rw [← Array.all_toList, hfs]; simp [h1, h2]
        have hform : (Tx.V ⟨c, n⟩).formed Try.prog 25 = true := by simp [Value.formed, Tx.V, hu, h7]
        have hl : Try.prog.keyLits (Try.prog.types.size + 1) 25 [.int .u32 c, .int .u32 n] = some [.int .u32 c, .int .u32 n] := by
          rw [hm]
          unfold Program.keyLits
          have hi2 : Try.prog.underlying g.type = some (.int .u32) := by rw [← h5]; exact hi
          have h62 : Try.prog.cellsOf g.type = 1 := by rw [← h5]; exact h6
          simp [hu, hall, h7, hfs, h3, h4, h6, h62, Program.keyLits, hi, hi2, w1, w2]
        refine ⟨.string (keyBytes [.int .u32 c, .int .u32 n]), ?_⟩
        unfold keyOf
        simp only [hu, kt25, hform, Bool.and_self, if_true]
        show (Try.prog.keyLits (Try.prog.types.size + 1) 25 [.int .u32 c, .int .u32 n]).map _ = _
        rw [hl]
        rfl
      · cases h8
    · cases hc
  · cases hc
end Go.Proofs.Ythcbefkgfhokoaa

/- The latch's table: New, Of. -/
namespace Go.Proofs.Ythcbefkgfhokoaa
open Go Go.Dv
set_option maxRecDepth 100000
attribute [local irreducible] HTh HM En Fsp TrA Cl MpA OwS RdS MpO

/-- a holder -/
structure Hold where
  tx : Tx
  b : Nat
  hd : Hd
  ws : List Wr
  v : Value
def HoldA (x : Hold) : HP := Sep [Cl x.b 75 (hdC x.hd x.v), OwS 39 3 x.v x.ws.length (wcs x.ws).flatten]
def HsA : List Hold → HP
  | [] => Sep []
  | x :: l => Sep [HoldA x, HsA l]
def entL (hs : List Hold) : List (Value × Value) := hs.map fun x => (x.tx.V, .pointer (some ⟨x.b, 0, none⟩))
/-- the table's own cells -/
def tabC (t hb m : Nat) : HP := Cl t 65 [.map (some hb), .pointer (some ⟨m, 0, none⟩)]
/-- the table -/
def TabA (t : Nat) (hs : List Hold) (keys : KL) : HP := fun h => ∃ x : Nat × Nat, True ∧ Sep [Cl t 65 [.map (some x.1), .pointer (some ⟨x.2, 0, none⟩)], MpO Try.prog 25 x.1 (entL hs), MpA x.2 keys, HsA hs] h

theorem hsA_pick {x : Hold} : ∀ {l1 l2 : List Hold} {h : PH}, HsA (l1 ++ x :: l2) h → Sep [HoldA x, HsA (l1 ++ l2)] h
  | [], l2, h, hh => hh
  | y :: l1, l2, h, hh => by
    have h1 : Sep [HoldA y, HsA (l1 ++ x :: l2)] h := hh
    have h2 : Sep [HoldA y, HoldA x, HsA (l1 ++ l2)] h := sep_tail (fun h' hs => by
      obtain ⟨g1, g2, d, u, hp, hr⟩ := hs
      exact sep_flat (x := Sep [HoldA x, HsA (l1 ++ l2)]) (fun _ h => h) ⟨g1, g2, d, u, hsA_pick hp, hr⟩) h1
    have sx : Sx [HoldA y, HoldA x, HsA (l1 ++ l2)] [HoldA x, HoldA y, HsA (l1 ++ l2)] [] := (by repeat (first | apply Sx.nil | apply Pk.h | apply Sx.cons | apply Pk.t))
    have h3 := sx.out h2
    exact sep_tail (fun h' hs => sep_fold (x := HsA (y :: (l1 ++ l2))) (ys := [HoldA y, HsA (l1 ++ l2)]) (r := []) (fun _ hh => hh) hs) h3

theorem hsA_put {x : Hold} : ∀ {l1 l2 : List Hold} {h : PH}, Sep [HoldA x, HsA (l1 ++ l2)] h → HsA (l1 ++ x :: l2) h
  | [], l2, h, hh => hh
  | y :: l1, l2, h, hh => by
    have h2 : Sep [HoldA x, HoldA y, HsA (l1 ++ l2)] h := sep_tail (fun h' hs => sep_flat (x := HsA (y :: (l1 ++ l2))) (ys := [HoldA y, HsA (l1 ++ l2)]) (r := []) (fun _ h => h) hs) hh
    have sx : Sx [HoldA x, HoldA y, HsA (l1 ++ l2)] [HoldA y, HoldA x, HsA (l1 ++ l2)] [] := (by repeat (first | apply Sx.nil | apply Pk.h | apply Sx.cons | apply Pk.t))
    have h3 := sx.out h2
    exact sep_tail (fun h' hs => sep_fold (x := HsA (l1 ++ x :: l2)) (ys := [HoldA x, HsA (l1 ++ l2)]) (r := []) (fun _ hh => hsA_put hh) hs) h3

section
variable {aa r : List HP} {J : PH → Prop}
theorem en_pick {x : Hold} {l1 l2 : List Hold} (pk : Pk aa (HsA (l1 ++ x :: l2)) r) (m : En (Cl x.b 75 (hdC x.hd x.v) :: OwS 39 3 x.v x.ws.length (wcs x.ws).flatten :: HsA (l1 ++ l2) :: r) J) : En aa J :=
  en_open (α := Unit) (φ := fun _ => True) (ys := fun _ => [Cl x.b 75 (hdC x.hd x.v), OwS 39 3 x.v x.ws.length (wcs x.ws).flatten, HsA (l1 ++ l2)])
    (fun _ hh => ⟨(), trivial, sep_flat (x := HoldA x) (ys := [_, _]) (fun _ h => h) (hsA_pick hh)⟩) pk fun _ _ => m
theorem en_put {x : Hold} {l1 l2 : List Hold} (sx : Sx aa [Cl x.b 75 (hdC x.hd x.v), OwS 39 3 x.v x.ws.length (wcs x.ws).flatten, HsA (l1 ++ l2)] r) (m : En (HsA (l1 ++ x :: l2) :: r) J) : En aa J :=
  en_fold (fun _ hh => hsA_put (sep_fold (x := HoldA x) (ys := [_, _]) (r := [HsA (l1 ++ l2)]) (fun _ hh => hh) hh)) sx m
theorem en_tab {t : Nat} {hs : List Hold} {keys : KL} (pk : Pk aa (TabA t hs keys) r)
    (m : ∀ hb m, En (Cl t 65 [.map (some hb), .pointer (some ⟨m, 0, none⟩)] :: MpO Try.prog 25 hb (entL hs) :: MpA m keys :: HsA hs :: r) J) : En aa J :=
  en_open (x := TabA t hs keys) (fun _ h => h) pk fun x _ => m x.1 x.2
theorem en_mktab {t hb m : Nat} {hs : List Hold} {keys : KL} (sx : Sx aa [Cl t 65 [.map (some hb), .pointer (some ⟨m, 0, none⟩)], MpO Try.prog 25 hb (entL hs), MpA m keys, HsA hs] r)
    (k : En (TabA t hs keys :: r) J) : En aa J :=
  en_fold (x := TabA t hs keys) (fun _ h => ⟨(hb, m), trivial, h⟩) sx k
end
attribute [local irreducible] TabA HsA

theorem LNew_spec : Fsp Try.prog 9 [] [] fun u aa' => ∃ t, u = .pointer (some ⟨t, 0, none⟩) ∧ aa' = [TabA t [] []] := by
  refine spec_of F9.ok rfl fun gl X => ?_
  dsimp only [List.cons_append, List.nil_append]
  (repeat (first | ((with_reducible apply t_run); exact rfl) | ((with_reducible apply t_p); exact rfl; exact rfl) | ((with_reducible apply t_gr); exact rfl) | ((with_reducible apply t_ge); exact rfl) | ((with_reducible apply t_ld); exact rfl; exact rfl; (repeat (first | with_reducible exact Pk.h | with_reducible apply Pk.t)); exact rfl) | ((with_reducible apply t_st); exact rfl; exact rfl; exact rfl; (repeat (first | with_reducible exact Pk.h | with_reducible apply Pk.t)); exact rfl; exact rfl; exact Nat.le_of_ble_eq_true rfl; exact rfl; (repeat (first | apply rk_nil | (apply rk_skip; exact rfl) | (apply rk_ld; exact rfl; (repeat (first | with_reducible exact Pk.h | with_reducible apply Pk.t)); exact rfl)))) | ((with_reducible apply t_nx F9.k); exact rfl; exact rfl) | with_reducible apply m_seq | (with_reducible apply m_reg mix) | with_reducible apply m_block | ((with_reducible apply m_ct); exact rfl) | ((with_reducible apply m_cf); exact rfl) | ((with_reducible apply m_skn); exact rfl) | ((with_reducible apply m_exn); exact rfl)))
  refine t_mkm 25 rfl fun hb => ⟨(by (repeat (first | apply rk_nil | (apply rk_skip; exact rfl) | (apply rk_ld; exact rfl; (repeat (first | with_reducible exact Pk.h | with_reducible apply Pk.t)); exact rfl)))), ?_⟩
  refine t_cl rfl rfl (New_spec) (by repeat (first | apply Sx.nil | apply Pk.h | apply Sx.cons | apply Pk.t)) ?_
  rintro _ _ ⟨m, rfl, rfl⟩
  refine ⟨?_, ?_⟩ <;> (try dsimp only [List.cons_append, List.nil_append])
  · (repeat (first | apply rk_nil | (apply rk_skip; exact rfl) | (apply rk_ld; exact rfl; (repeat (first | with_reducible exact Pk.h | with_reducible apply Pk.t)); exact rfl)))
  (repeat (first | ((with_reducible apply t_run); exact rfl) | ((with_reducible apply t_p); exact rfl; exact rfl) | ((with_reducible apply t_gr); exact rfl) | ((with_reducible apply t_ge); exact rfl) | ((with_reducible apply t_ld); exact rfl; exact rfl; (repeat (first | with_reducible exact Pk.h | with_reducible apply Pk.t)); exact rfl) | ((with_reducible apply t_st); exact rfl; exact rfl; exact rfl; (repeat (first | with_reducible exact Pk.h | with_reducible apply Pk.t)); exact rfl; exact rfl; exact Nat.le_of_ble_eq_true rfl; exact rfl; (repeat (first | apply rk_nil | (apply rk_skip; exact rfl) | (apply rk_ld; exact rfl; (repeat (first | with_reducible exact Pk.h | with_reducible apply Pk.t)); exact rfl)))) | ((with_reducible apply t_nx F9.k); exact rfl; exact rfl) | with_reducible apply m_seq | (with_reducible apply m_reg mix) | with_reducible apply m_block | ((with_reducible apply m_ct); exact rfl) | ((with_reducible apply m_cf); exact rfl) | ((with_reducible apply m_skn); exact rfl) | ((with_reducible apply m_exn); exact rfl)))
  refine t_bx rfl rfl rfl fun t => ⟨(by (repeat (first | apply rk_nil | (apply rk_skip; exact rfl) | (apply rk_ld; exact rfl; (repeat (first | with_reducible exact Pk.h | with_reducible apply Pk.t)); exact rfl)))), ?_⟩
  try dsimp only [List.cons_append, List.nil_append]
  (repeat (first | ((with_reducible apply t_run); exact rfl) | ((with_reducible apply t_p); exact rfl; exact rfl) | ((with_reducible apply t_gr); exact rfl) | ((with_reducible apply t_ge); exact rfl) | ((with_reducible apply t_ld); exact rfl; exact rfl; (repeat (first | with_reducible exact Pk.h | with_reducible apply Pk.t)); exact rfl) | ((with_reducible apply t_st); exact rfl; exact rfl; exact rfl; (repeat (first | with_reducible exact Pk.h | with_reducible apply Pk.t)); exact rfl; exact rfl; exact Nat.le_of_ble_eq_true rfl; exact rfl; (repeat (first | apply rk_nil | (apply rk_skip; exact rfl) | (apply rk_ld; exact rfl; (repeat (first | with_reducible exact Pk.h | with_reducible apply Pk.t)); exact rfl)))) | ((with_reducible apply t_nx F9.k); exact rfl; exact rfl) | with_reducible apply m_seq | (with_reducible apply m_reg mix) | with_reducible apply m_block | ((with_reducible apply m_ct); exact rfl) | ((with_reducible apply m_cf); exact rfl) | ((with_reducible apply m_skn); exact rfl) | ((with_reducible apply m_exn); exact rfl)))
  refine en_emp (x := HsA []) (by unfold HsA; trivial) ?_
  refine en_mktab (t := t) (hb := hb) (m := m) (hs := []) (keys := []) (by repeat (first | apply Sx.nil | apply Pk.h | apply Sx.cons | apply Pk.t)) ?_
  apply m_ret
  · rfl
  · (repeat (first | apply rs_nil | (apply rs_tmp; exact rfl) | (apply rs_cell; exact rfl; (repeat (first | with_reducible exact Pk.h | with_reducible apply Pk.t)); exact rfl)))
  · exact ⟨_, rfl, rfl⟩
  · exact (by repeat (first | apply Sx.nil | apply Pk.h | apply Sx.cons | apply Pk.t))

theorem und71 : zOf Try.prog 71 = some (.pointer none) := by kernel_rfl
def zIn : In := ⟨⟨0, 0⟩, ⟨0, 0⟩, ⟨0, 0⟩, ⟨#[]⟩, ⟨⟨#[]⟩, ⟨#[]⟩, false⟩⟩
def Ow.tx (o : Ow) : Tx := ⟨o.c, o.n⟩
def Ow.w (o : Ow) : Wr := ⟨o.key, o.val, o.dead⟩
theorem ent_mem {x : Hold} {hs : List Hold} (h : x ∈ hs) : (x.tx.V, Value.pointer (some ⟨x.b, 0, none⟩)) ∈ entL hs := List.mem_map.2 ⟨x, h, rfl⟩

theorem Of_none (t : Nat) (hs : List Hold) (keys : KL) (key : ByteArray) (hg : getK keys key = none) :
    Fsp Try.prog 17 [.pointer (some ⟨t, 0, none⟩), .string key] [TabA t hs keys] fun u aa' => u = .tuple #[zIn.V, .bool false] ∧ aa' = [TabA t hs keys] := by
  refine spec_of F17.ok rfl fun gl X => ?_
  dsimp only [List.cons_append, List.nil_append]
  refine en_tab (by repeat (first | with_reducible exact Pk.h | with_reducible apply Pk.t)) fun hb m => ?_
  (repeat (first | ((with_reducible apply t_run); exact rfl) | ((with_reducible apply t_p); exact rfl; exact rfl) | ((with_reducible apply t_gr); exact rfl) | ((with_reducible apply t_ge); exact rfl) | ((with_reducible apply t_ld); exact rfl; exact rfl; (repeat (first | with_reducible exact Pk.h | with_reducible apply Pk.t)); exact rfl) | ((with_reducible apply t_st); exact rfl; exact rfl; exact rfl; (repeat (first | with_reducible exact Pk.h | with_reducible apply Pk.t)); exact rfl; exact rfl; exact Nat.le_of_ble_eq_true rfl; exact rfl; (repeat (first | apply rk_nil | (apply rk_skip; exact rfl) | (apply rk_ld; exact rfl; (repeat (first | with_reducible exact Pk.h | with_reducible apply Pk.t)); exact rfl)))) | ((with_reducible apply t_nx F17.k); exact rfl; exact rfl) | with_reducible apply m_seq | (with_reducible apply m_reg mix) | with_reducible apply m_block | ((with_reducible apply m_ct); exact rfl) | ((with_reducible apply m_cf); exact rfl) | ((with_reducible apply m_skn); exact rfl) | ((with_reducible apply m_exn); exact rfl)))
  refine t_al rfl fun b4 => ⟨(by (repeat (first | apply rk_nil | (apply rk_skip; exact rfl) | (apply rk_ld; exact rfl; (repeat (first | with_reducible exact Pk.h | with_reducible apply Pk.t)); exact rfl)))), ?_⟩
  (repeat (first | ((with_reducible apply t_run); exact rfl) | ((with_reducible apply t_p); exact rfl; exact rfl) | ((with_reducible apply t_gr); exact rfl) | ((with_reducible apply t_ge); exact rfl) | ((with_reducible apply t_ld); exact rfl; exact rfl; (repeat (first | with_reducible exact Pk.h | with_reducible apply Pk.t)); exact rfl) | ((with_reducible apply t_st); exact rfl; exact rfl; exact rfl; (repeat (first | with_reducible exact Pk.h | with_reducible apply Pk.t)); exact rfl; exact rfl; exact Nat.le_of_ble_eq_true rfl; exact rfl; (repeat (first | apply rk_nil | (apply rk_skip; exact rfl) | (apply rk_ld; exact rfl; (repeat (first | with_reducible exact Pk.h | with_reducible apply Pk.t)); exact rfl)))) | ((with_reducible apply t_nx F17.k); exact rfl; exact rfl) | with_reducible apply m_seq | (with_reducible apply m_reg mix) | with_reducible apply m_block | ((with_reducible apply m_ct); exact rfl) | ((with_reducible apply m_cf); exact rfl) | ((with_reducible apply m_skn); exact rfl) | ((with_reducible apply m_exn); exact rfl)))
  refine t_cl rfl rfl (Get_spec m key keys) (by repeat (first | apply Sx.nil | apply Pk.h | apply Sx.cons | apply Pk.t)) ?_
  rintro _ _ ⟨rfl, rfl⟩
  refine ⟨?_, ?_⟩ <;> (try dsimp only [List.cons_append, List.nil_append])
  · (repeat (first | apply rk_nil | (apply rk_skip; exact rfl) | (apply rk_ld; exact rfl; (repeat (first | with_reducible exact Pk.h | with_reducible apply Pk.t)); exact rfl)))
  rw [hg]
  (repeat (first | ((with_reducible apply t_run); exact rfl) | ((with_reducible apply t_p); exact rfl; exact rfl) | ((with_reducible apply t_gr); exact rfl) | ((with_reducible apply t_ge); exact rfl) | ((with_reducible apply t_ld); exact rfl; exact rfl; (repeat (first | with_reducible exact Pk.h | with_reducible apply Pk.t)); exact rfl) | ((with_reducible apply t_st); exact rfl; exact rfl; exact rfl; (repeat (first | with_reducible exact Pk.h | with_reducible apply Pk.t)); exact rfl; exact rfl; exact Nat.le_of_ble_eq_true rfl; exact rfl; (repeat (first | apply rk_nil | (apply rk_skip; exact rfl) | (apply rk_ld; exact rfl; (repeat (first | with_reducible exact Pk.h | with_reducible apply Pk.t)); exact rfl)))) | ((with_reducible apply t_nx F17.k); exact rfl; exact rfl) | with_reducible apply m_seq | (with_reducible apply m_reg mix) | with_reducible apply m_block | ((with_reducible apply m_ct); exact rfl) | ((with_reducible apply m_cf); exact rfl) | ((with_reducible apply m_skn); exact rfl) | ((with_reducible apply m_exn); exact rfl)))
  refine t_al rfl fun b6 => ⟨(by (repeat (first | apply rk_nil | (apply rk_skip; exact rfl) | (apply rk_ld; exact rfl; (repeat (first | with_reducible exact Pk.h | with_reducible apply Pk.t)); exact rfl)))), ?_⟩
  (repeat (first | ((with_reducible apply t_run); exact rfl) | ((with_reducible apply t_p); exact rfl; exact rfl) | ((with_reducible apply t_gr); exact rfl) | ((with_reducible apply t_ge); exact rfl) | ((with_reducible apply t_ld); exact rfl; exact rfl; (repeat (first | with_reducible exact Pk.h | with_reducible apply Pk.t)); exact rfl) | ((with_reducible apply t_st); exact rfl; exact rfl; exact rfl; (repeat (first | with_reducible exact Pk.h | with_reducible apply Pk.t)); exact rfl; exact rfl; exact Nat.le_of_ble_eq_true rfl; exact rfl; (repeat (first | apply rk_nil | (apply rk_skip; exact rfl) | (apply rk_ld; exact rfl; (repeat (first | with_reducible exact Pk.h | with_reducible apply Pk.t)); exact rfl)))) | ((with_reducible apply t_nx F17.k); exact rfl; exact rfl) | with_reducible apply m_seq | (with_reducible apply m_reg mix) | with_reducible apply m_block | ((with_reducible apply m_ct); exact rfl) | ((with_reducible apply m_cf); exact rfl) | ((with_reducible apply m_skn); exact rfl) | ((with_reducible apply m_exn); exact rfl)))
  refine en_mktab (t := t) (hb := hb) (m := m) (hs := hs) (keys := keys) (by repeat (first | apply Sx.nil | apply Pk.h | apply Sx.cons | apply Pk.t)) ?_
  apply m_ret
  · rfl
  · (repeat (first | apply rs_nil | (apply rs_tmp; exact rfl) | (apply rs_cell; exact rfl; (repeat (first | with_reducible exact Pk.h | with_reducible apply Pk.t)); exact rfl)))
  · exact ⟨rfl, rfl⟩
  · exact (by repeat (first | apply Sx.nil | apply Pk.h | apply Sx.cons | apply Pk.t))

theorem Of_some (t : Nat) (hs : List Hold) (keys : KL) (key : ByteArray) (o : Ow) (x : Hold) (hg : getK keys key = some o) (hx : x ∈ hs) (ht : x.tx = o.tx) (hok : x.tx.ok) :
    Fsp Try.prog 17 [.pointer (some ⟨t, 0, none⟩), .string key] [TabA t hs keys] fun u aa' => u = .tuple #[(In.mk o.tx x.hd.start x.hd.min x.hd.prim o.w).V, .bool true] ∧ aa' = [TabA t hs keys] := by
  obtain ⟨oc, on, ok, ov, od⟩ := o
  have ht' : x.tx.V = .agg #[.int .u32 oc, .int .u32 on] := by rw [ht]; rfl
  have hmem := ent_mem hx
  rw [ht'] at hmem
  have hko := keyOk25 hok
  rw [ht'] at hko
  obtain ⟨l1, l2, rfl⟩ := List.append_of_mem hx
  refine spec_of F17.ok rfl fun gl X => ?_
  dsimp only [List.cons_append, List.nil_append]
  refine en_tab (by repeat (first | with_reducible exact Pk.h | with_reducible apply Pk.t)) fun hb m => ?_
  refine en_pick (by repeat (first | with_reducible exact Pk.h | with_reducible apply Pk.t)) ?_
  (repeat (first | ((with_reducible apply t_run); exact rfl) | ((with_reducible apply t_p); exact rfl; exact rfl) | ((with_reducible apply t_gr); exact rfl) | ((with_reducible apply t_ge); exact rfl) | ((with_reducible apply t_ld); exact rfl; exact rfl; (repeat (first | with_reducible exact Pk.h | with_reducible apply Pk.t)); exact rfl) | ((with_reducible apply t_st); exact rfl; exact rfl; exact rfl; (repeat (first | with_reducible exact Pk.h | with_reducible apply Pk.t)); exact rfl; exact rfl; exact Nat.le_of_ble_eq_true rfl; exact rfl; (repeat (first | apply rk_nil | (apply rk_skip; exact rfl) | (apply rk_ld; exact rfl; (repeat (first | with_reducible exact Pk.h | with_reducible apply Pk.t)); exact rfl)))) | ((with_reducible apply t_nx F17.k); exact rfl; exact rfl) | with_reducible apply m_seq | (with_reducible apply m_reg mix) | with_reducible apply m_block | ((with_reducible apply m_ct); exact rfl) | ((with_reducible apply m_cf); exact rfl) | ((with_reducible apply m_skn); exact rfl) | ((with_reducible apply m_exn); exact rfl)))
  refine t_al rfl fun b4 => ⟨(by (repeat (first | apply rk_nil | (apply rk_skip; exact rfl) | (apply rk_ld; exact rfl; (repeat (first | with_reducible exact Pk.h | with_reducible apply Pk.t)); exact rfl)))), ?_⟩
  (repeat (first | ((with_reducible apply t_run); exact rfl) | ((with_reducible apply t_p); exact rfl; exact rfl) | ((with_reducible apply t_gr); exact rfl) | ((with_reducible apply t_ge); exact rfl) | ((with_reducible apply t_ld); exact rfl; exact rfl; (repeat (first | with_reducible exact Pk.h | with_reducible apply Pk.t)); exact rfl) | ((with_reducible apply t_st); exact rfl; exact rfl; exact rfl; (repeat (first | with_reducible exact Pk.h | with_reducible apply Pk.t)); exact rfl; exact rfl; exact Nat.le_of_ble_eq_true rfl; exact rfl; (repeat (first | apply rk_nil | (apply rk_skip; exact rfl) | (apply rk_ld; exact rfl; (repeat (first | with_reducible exact Pk.h | with_reducible apply Pk.t)); exact rfl)))) | ((with_reducible apply t_nx F17.k); exact rfl; exact rfl) | with_reducible apply m_seq | (with_reducible apply m_reg mix) | with_reducible apply m_block | ((with_reducible apply m_ct); exact rfl) | ((with_reducible apply m_cf); exact rfl) | ((with_reducible apply m_skn); exact rfl) | ((with_reducible apply m_exn); exact rfl)))
  refine t_cl rfl rfl (Get_spec m key keys) (by repeat (first | apply Sx.nil | apply Pk.h | apply Sx.cons | apply Pk.t)) ?_
  rintro _ _ ⟨rfl, rfl⟩
  refine ⟨?_, ?_⟩ <;> (try dsimp only [List.cons_append, List.nil_append])
  · (repeat (first | apply rk_nil | (apply rk_skip; exact rfl) | (apply rk_ld; exact rfl; (repeat (first | with_reducible exact Pk.h | with_reducible apply Pk.t)); exact rfl)))
  rw [hg]
  (repeat (first | ((with_reducible apply t_run); exact rfl) | ((with_reducible apply t_p); exact rfl; exact rfl) | ((with_reducible apply t_gr); exact rfl) | ((with_reducible apply t_ge); exact rfl) | ((with_reducible apply t_ld); exact rfl; exact rfl; (repeat (first | with_reducible exact Pk.h | with_reducible apply Pk.t)); exact rfl) | ((with_reducible apply t_st); exact rfl; exact rfl; exact rfl; (repeat (first | with_reducible exact Pk.h | with_reducible apply Pk.t)); exact rfl; exact rfl; exact Nat.le_of_ble_eq_true rfl; exact rfl; (repeat (first | apply rk_nil | (apply rk_skip; exact rfl) | (apply rk_ld; exact rfl; (repeat (first | with_reducible exact Pk.h | with_reducible apply Pk.t)); exact rfl)))) | ((with_reducible apply t_nx F17.k); exact rfl; exact rfl) | with_reducible apply m_seq | (with_reducible apply m_reg mix) | with_reducible apply m_block | ((with_reducible apply m_ct); exact rfl) | ((with_reducible apply m_cf); exact rfl) | ((with_reducible apply m_skn); exact rfl) | ((with_reducible apply m_exn); exact rfl)))
  refine t_al rfl fun b6 => ⟨(by (repeat (first | apply rk_nil | (apply rk_skip; exact rfl) | (apply rk_ld; exact rfl; (repeat (first | with_reducible exact Pk.h | with_reducible apply Pk.t)); exact rfl)))), ?_⟩
  (repeat (first | ((with_reducible apply t_run); exact rfl) | ((with_reducible apply t_p); exact rfl; exact rfl) | ((with_reducible apply t_gr); exact rfl) | ((with_reducible apply t_ge); exact rfl) | ((with_reducible apply t_ld); exact rfl; exact rfl; (repeat (first | with_reducible exact Pk.h | with_reducible apply Pk.t)); exact rfl) | ((with_reducible apply t_st); exact rfl; exact rfl; exact rfl; (repeat (first | with_reducible exact Pk.h | with_reducible apply Pk.t)); exact rfl; exact rfl; exact Nat.le_of_ble_eq_true rfl; exact rfl; (repeat (first | apply rk_nil | (apply rk_skip; exact rfl) | (apply rk_ld; exact rfl; (repeat (first | with_reducible exact Pk.h | with_reducible apply Pk.t)); exact rfl)))) | ((with_reducible apply t_nx F17.k); exact rfl; exact rfl) | with_reducible apply m_seq | (with_reducible apply m_reg mix) | with_reducible apply m_block | ((with_reducible apply m_ct); exact rfl) | ((with_reducible apply m_cf); exact rfl) | ((with_reducible apply m_skn); exact rfl) | ((with_reducible apply m_exn); exact rfl)))
  refine t_r (v := .pointer (some ⟨x.b, 0, none⟩)) rfl (look_rv ktx und59 (zrun und71) rfl rfl hko (by repeat (first | with_reducible exact Pk.h | with_reducible apply Pk.t)) (.inr hmem)) ?_
  (repeat (first | ((with_reducible apply t_run); exact rfl) | ((with_reducible apply t_p); exact rfl; exact rfl) | ((with_reducible apply t_gr); exact rfl) | ((with_reducible apply t_ge); exact rfl) | ((with_reducible apply t_ld); exact rfl; exact rfl; (repeat (first | with_reducible exact Pk.h | with_reducible apply Pk.t)); exact rfl) | ((with_reducible apply t_st); exact rfl; exact rfl; exact rfl; (repeat (first | with_reducible exact Pk.h | with_reducible apply Pk.t)); exact rfl; exact rfl; exact Nat.le_of_ble_eq_true rfl; exact rfl; (repeat (first | apply rk_nil | (apply rk_skip; exact rfl) | (apply rk_ld; exact rfl; (repeat (first | with_reducible exact Pk.h | with_reducible apply Pk.t)); exact rfl)))) | ((with_reducible apply t_nx F17.k); exact rfl; exact rfl) | with_reducible apply m_seq | (with_reducible apply m_reg mix) | with_reducible apply m_block | ((with_reducible apply m_ct); exact rfl) | ((with_reducible apply m_cf); exact rfl) | ((with_reducible apply m_skn); exact rfl) | ((with_reducible apply m_exn); exact rfl)))
  refine t_cl rfl rfl (intent_spec x.b x.hd x.v ⟨oc, on⟩ ⟨ok, ov, od⟩) (by repeat (first | apply Sx.nil | apply Pk.h | apply Sx.cons | apply Pk.t)) ?_
  rintro _ _ ⟨rfl, rfl⟩
  refine ⟨?_, ?_⟩ <;> (try dsimp only [List.cons_append, List.nil_append])
  · (repeat (first | apply rk_nil | (apply rk_skip; exact rfl) | (apply rk_ld; exact rfl; (repeat (first | with_reducible exact Pk.h | with_reducible apply Pk.t)); exact rfl)))
  (repeat (first | ((with_reducible apply t_run); exact rfl) | ((with_reducible apply t_p); exact rfl; exact rfl) | ((with_reducible apply t_gr); exact rfl) | ((with_reducible apply t_ge); exact rfl) | ((with_reducible apply t_ld); exact rfl; exact rfl; (repeat (first | with_reducible exact Pk.h | with_reducible apply Pk.t)); exact rfl) | ((with_reducible apply t_st); exact rfl; exact rfl; exact rfl; (repeat (first | with_reducible exact Pk.h | with_reducible apply Pk.t)); exact rfl; exact rfl; exact Nat.le_of_ble_eq_true rfl; exact rfl; (repeat (first | apply rk_nil | (apply rk_skip; exact rfl) | (apply rk_ld; exact rfl; (repeat (first | with_reducible exact Pk.h | with_reducible apply Pk.t)); exact rfl)))) | ((with_reducible apply t_nx F17.k); exact rfl; exact rfl) | with_reducible apply m_seq | (with_reducible apply m_reg mix) | with_reducible apply m_block | ((with_reducible apply m_ct); exact rfl) | ((with_reducible apply m_cf); exact rfl) | ((with_reducible apply m_skn); exact rfl) | ((with_reducible apply m_exn); exact rfl)))
  refine en_put (x := x) (l1 := l1) (l2 := l2) (by repeat (first | apply Sx.nil | apply Pk.h | apply Sx.cons | apply Pk.t)) ?_
  refine en_mktab (t := t) (hb := hb) (m := m) (hs := l1 ++ x :: l2) (keys := keys) (by repeat (first | apply Sx.nil | apply Pk.h | apply Sx.cons | apply Pk.t)) ?_
  apply m_ret
  · rfl
  · (repeat (first | apply rs_nil | (apply rs_tmp; exact rfl) | (apply rs_cell; exact rfl; (repeat (first | with_reducible exact Pk.h | with_reducible apply Pk.t)); exact rfl)))
  · exact ⟨rfl, rfl⟩
  · exact (by repeat (first | apply Sx.nil | apply Pk.h | apply Sx.cons | apply Pk.t))
end Go.Proofs.Ythcbefkgfhokoaa

/- The latch's table: what is busy; a transaction's intents. -/
namespace Go.Proofs.Ythcbefkgfhokoaa
open Go Go.Dv
set_option maxRecDepth 100000
attribute [local irreducible] HTh HM En Fsp TrA Cl MpA OwS RdS MpO TabA HsA

def busyP (keys : KL) (w : Wr) : Bool := (getK keys w.key).isSome
theorem busy_spec (t b6 : Nat) (hs : List Hold) (keys : KL) (w : Wr) :
    Fsp Try.prog 29 [w.V, .pointer (some ⟨b6, 0, none⟩)] [Sep [Cl b6 34 [.pointer (some ⟨t, 0, none⟩)], TabA t hs keys]] fun u aa' => u = .bool (busyP keys w) ∧ aa' = [Sep [Cl b6 34 [.pointer (some ⟨t, 0, none⟩)], TabA t hs keys]] := by
  obtain ⟨wk, wv, wd⟩ := w
  refine spec_of F29.ok rfl fun gl X => ?_
  dsimp only [List.cons_append, List.nil_append]
  simp only [Wr.V]
  refine en_one (by repeat (first | with_reducible exact Pk.h | with_reducible apply Pk.t)) ?_
  dsimp only [List.cons_append, List.nil_append]
  refine en_tab (by repeat (first | with_reducible exact Pk.h | with_reducible apply Pk.t)) fun hb m => ?_
  (repeat (first | ((with_reducible apply t_run); exact rfl) | ((with_reducible apply t_p); exact rfl; exact rfl) | ((with_reducible apply t_gr); exact rfl) | ((with_reducible apply t_ge); exact rfl) | ((with_reducible apply t_ld); exact rfl; exact rfl; (repeat (first | with_reducible exact Pk.h | with_reducible apply Pk.t)); exact rfl) | ((with_reducible apply t_st); exact rfl; exact rfl; exact rfl; (repeat (first | with_reducible exact Pk.h | with_reducible apply Pk.t)); exact rfl; exact rfl; exact Nat.le_of_ble_eq_true rfl; exact rfl; (repeat (first | apply rk_nil | (apply rk_skip; exact rfl) | (apply rk_ld; exact rfl; (repeat (first | with_reducible exact Pk.h | with_reducible apply Pk.t)); exact rfl)))) | ((with_reducible apply t_nx F29.k); exact rfl; exact rfl) | with_reducible apply m_seq | (with_reducible apply m_reg mix) | with_reducible apply m_block | ((with_reducible apply m_ct); exact rfl) | ((with_reducible apply m_cf); exact rfl) | ((with_reducible apply m_skn); exact rfl) | ((with_reducible apply m_exn); exact rfl)))
  refine t_bx rfl rfl rfl fun b2 => ⟨(by (repeat (first | apply rk_nil | (apply rk_skip; exact rfl) | (apply rk_ld; exact rfl; (repeat (first | with_reducible exact Pk.h | with_reducible apply Pk.t)); exact rfl)))), ?_⟩
  try dsimp only [List.cons_append, List.nil_append]
  (repeat (first | ((with_reducible apply t_run); exact rfl) | ((with_reducible apply t_p); exact rfl; exact rfl) | ((with_reducible apply t_gr); exact rfl) | ((with_reducible apply t_ge); exact rfl) | ((with_reducible apply t_ld); exact rfl; exact rfl; (repeat (first | with_reducible exact Pk.h | with_reducible apply Pk.t)); exact rfl) | ((with_reducible apply t_st); exact rfl; exact rfl; exact rfl; (repeat (first | with_reducible exact Pk.h | with_reducible apply Pk.t)); exact rfl; exact rfl; exact Nat.le_of_ble_eq_true rfl; exact rfl; (repeat (first | apply rk_nil | (apply rk_skip; exact rfl) | (apply rk_ld; exact rfl; (repeat (first | with_reducible exact Pk.h | with_reducible apply Pk.t)); exact rfl)))) | ((with_reducible apply t_nx F29.k); exact rfl; exact rfl) | with_reducible apply m_seq | (with_reducible apply m_reg mix) | with_reducible apply m_block | ((with_reducible apply m_ct); exact rfl) | ((with_reducible apply m_cf); exact rfl) | ((with_reducible apply m_skn); exact rfl) | ((with_reducible apply m_exn); exact rfl)))
  refine t_alt ?_ ?_
  · skip
    refine t_cl rfl rfl (Get_spec m wk keys) (by repeat (first | apply Sx.nil | apply Pk.h | apply Sx.cons | apply Pk.t)) ?_
    rintro _ _ ⟨rfl, rfl⟩
    refine ⟨?_, ?_⟩ <;> (try dsimp only [List.cons_append, List.nil_append])
    · (repeat (first | apply rk_nil | (apply rk_skip; exact rfl) | (apply rk_ld; exact rfl; (repeat (first | with_reducible exact Pk.h | with_reducible apply Pk.t)); exact rfl)))
    (repeat (first | ((with_reducible apply t_run); exact rfl) | ((with_reducible apply t_p); exact rfl; exact rfl) | ((with_reducible apply t_gr); exact rfl) | ((with_reducible apply t_ge); exact rfl) | ((with_reducible apply t_ld); exact rfl; exact rfl; (repeat (first | with_reducible exact Pk.h | with_reducible apply Pk.t)); exact rfl) | ((with_reducible apply t_st); exact rfl; exact rfl; exact rfl; (repeat (first | with_reducible exact Pk.h | with_reducible apply Pk.t)); exact rfl; exact rfl; exact Nat.le_of_ble_eq_true rfl; exact rfl; (repeat (first | apply rk_nil | (apply rk_skip; exact rfl) | (apply rk_ld; exact rfl; (repeat (first | with_reducible exact Pk.h | with_reducible apply Pk.t)); exact rfl)))) | ((with_reducible apply t_nx F29.k); exact rfl; exact rfl) | with_reducible apply m_seq | (with_reducible apply m_reg mix) | with_reducible apply m_block | ((with_reducible apply m_ct); exact rfl) | ((with_reducible apply m_cf); exact rfl) | ((with_reducible apply m_skn); exact rfl) | ((with_reducible apply m_exn); exact rfl)))
    refine t_al rfl fun b4 => ⟨(by (repeat (first | apply rk_nil | (apply rk_skip; exact rfl) | (apply rk_ld; exact rfl; (repeat (first | with_reducible exact Pk.h | with_reducible apply Pk.t)); exact rfl)))), ?_⟩
    (repeat (first | ((with_reducible apply t_run); exact rfl) | ((with_reducible apply t_p); exact rfl; exact rfl) | ((with_reducible apply t_gr); exact rfl) | ((with_reducible apply t_ge); exact rfl) | ((with_reducible apply t_ld); exact rfl; exact rfl; (repeat (first | with_reducible exact Pk.h | with_reducible apply Pk.t)); exact rfl) | ((with_reducible apply t_st); exact rfl; exact rfl; exact rfl; (repeat (first | with_reducible exact Pk.h | with_reducible apply Pk.t)); exact rfl; exact rfl; exact Nat.le_of_ble_eq_true rfl; exact rfl; (repeat (first | apply rk_nil | (apply rk_skip; exact rfl) | (apply rk_ld; exact rfl; (repeat (first | with_reducible exact Pk.h | with_reducible apply Pk.t)); exact rfl)))) | ((with_reducible apply t_nx F29.k); exact rfl; exact rfl) | with_reducible apply m_seq | (with_reducible apply m_reg mix) | with_reducible apply m_block | ((with_reducible apply m_ct); exact rfl) | ((with_reducible apply m_cf); exact rfl) | ((with_reducible apply m_skn); exact rfl) | ((with_reducible apply m_exn); exact rfl)))
    refine en_mktab (t := t) (hb := hb) (m := m) (hs := hs) (keys := keys) (by repeat (first | apply Sx.nil | apply Pk.h | apply Sx.cons | apply Pk.t)) ?_
    refine en_toone (ys := [Cl b6 34 [.pointer (some ⟨t, 0, none⟩)], TabA t hs keys]) (by repeat (first | apply Sx.nil | apply Pk.h | apply Sx.cons | apply Pk.t)) ?_
    apply m_ret
    · rfl
    · (repeat (first | apply rs_nil | (apply rs_tmp; exact rfl) | (apply rs_cell; exact rfl; (repeat (first | with_reducible exact Pk.h | with_reducible apply Pk.t)); exact rfl)))
    · exact ⟨rfl, rfl⟩
    · exact (by repeat (first | apply Sx.nil | apply Pk.h | apply Sx.cons | apply Pk.t))
  · refine t_al rfl fun b4 => ⟨(by (repeat (first | apply rk_nil | (apply rk_skip; exact rfl) | (apply rk_ld; exact rfl; (repeat (first | with_reducible exact Pk.h | with_reducible apply Pk.t)); exact rfl)))), ?_⟩
    (repeat (first | ((with_reducible apply t_run); exact rfl) | ((with_reducible apply t_p); exact rfl; exact rfl) | ((with_reducible apply t_gr); exact rfl) | ((with_reducible apply t_ge); exact rfl) | ((with_reducible apply t_ld); exact rfl; exact rfl; (repeat (first | with_reducible exact Pk.h | with_reducible apply Pk.t)); exact rfl) | ((with_reducible apply t_st); exact rfl; exact rfl; exact rfl; (repeat (first | with_reducible exact Pk.h | with_reducible apply Pk.t)); exact rfl; exact rfl; exact Nat.le_of_ble_eq_true rfl; exact rfl; (repeat (first | apply rk_nil | (apply rk_skip; exact rfl) | (apply rk_ld; exact rfl; (repeat (first | with_reducible exact Pk.h | with_reducible apply Pk.t)); exact rfl)))) | ((with_reducible apply t_nx F29.k); exact rfl; exact rfl) | with_reducible apply m_seq | (with_reducible apply m_reg mix) | with_reducible apply m_block | ((with_reducible apply m_ct); exact rfl) | ((with_reducible apply m_cf); exact rfl) | ((with_reducible apply m_skn); exact rfl) | ((with_reducible apply m_exn); exact rfl)))
    refine t_cl rfl rfl (Get_spec m wk keys) (by repeat (first | apply Sx.nil | apply Pk.h | apply Sx.cons | apply Pk.t)) ?_
    rintro _ _ ⟨rfl, rfl⟩
    refine ⟨?_, ?_⟩ <;> (try dsimp only [List.cons_append, List.nil_append])
    · (repeat (first | apply rk_nil | (apply rk_skip; exact rfl) | (apply rk_ld; exact rfl; (repeat (first | with_reducible exact Pk.h | with_reducible apply Pk.t)); exact rfl)))
    (repeat (first | ((with_reducible apply t_run); exact rfl) | ((with_reducible apply t_p); exact rfl; exact rfl) | ((with_reducible apply t_gr); exact rfl) | ((with_reducible apply t_ge); exact rfl) | ((with_reducible apply t_ld); exact rfl; exact rfl; (repeat (first | with_reducible exact Pk.h | with_reducible apply Pk.t)); exact rfl) | ((with_reducible apply t_st); exact rfl; exact rfl; exact rfl; (repeat (first | with_reducible exact Pk.h | with_reducible apply Pk.t)); exact rfl; exact rfl; exact Nat.le_of_ble_eq_true rfl; exact rfl; (repeat (first | apply rk_nil | (apply rk_skip; exact rfl) | (apply rk_ld; exact rfl; (repeat (first | with_reducible exact Pk.h | with_reducible apply Pk.t)); exact rfl)))) | ((with_reducible apply t_nx F29.k); exact rfl; exact rfl) | with_reducible apply m_seq | (with_reducible apply m_reg mix) | with_reducible apply m_block | ((with_reducible apply m_ct); exact rfl) | ((with_reducible apply m_cf); exact rfl) | ((with_reducible apply m_skn); exact rfl) | ((with_reducible apply m_exn); exact rfl)))
    refine en_mktab (t := t) (hb := hb) (m := m) (hs := hs) (keys := keys) (by repeat (first | apply Sx.nil | apply Pk.h | apply Sx.cons | apply Pk.t)) ?_
    refine en_toone (ys := [Cl b6 34 [.pointer (some ⟨t, 0, none⟩)], TabA t hs keys]) (by repeat (first | apply Sx.nil | apply Pk.h | apply Sx.cons | apply Pk.t)) ?_
    apply m_ret
    · rfl
    · (repeat (first | apply rs_nil | (apply rs_tmp; exact rfl) | (apply rs_cell; exact rfl; (repeat (first | with_reducible exact Pk.h | with_reducible apply Pk.t)); exact rfl)))
    · exact ⟨rfl, rfl⟩
    · exact (by repeat (first | apply Sx.nil | apply Pk.h | apply Sx.cons | apply Pk.t))

theorem bd29 : Bd Try.prog 29 := by
  have h : (match Try.prog.funcs[29]? with | some fn => (fn.name == "runtime.NumGoroutine") == false && fn.body.isSome | none => false) = true := by kernel_rfl
  split at h
  · rename_i fn hf
    simp only [Bool.and_eq_true, beq_iff_eq] at h
    cases hb : fn.body with
    | none => rw [hb] at h; simp at h
    | some c => exact ⟨fn, c, hf, h.1, hb⟩
  · cases h
end Go.Proofs.Ythcbefkgfhokoaa

/- A transaction's intents. -/
namespace Go.Proofs.Ythcbefkgfhokoaa
open Go Go.Dv
set_option maxRecDepth 100000
attribute [local irreducible] HTh HM En Fsp TrA Cl MpA OwS RdS MpO TabA HsA

theorem sl42 : slI Try.prog 42 = some (41, 10, 96, zIn.cells) := by kernel_rfl
def inL (x : Hold) : List In := x.ws.map fun w => ⟨x.tx, x.hd.start, x.hd.min, x.hd.prim, w⟩
def ics (l : List In) : List (List Value) := l.map In.cells
theorem ics_step {x : Hold} {i : Nat} (h : i < x.ws.length) : (ics ((inL x).take (i + 1))).flatten = (ics ((inL x).take i)).flatten ++ (In.mk x.tx x.hd.start x.hd.min x.hd.prim x.ws[i]).cells := by
  have h2 : i < (inL x).length := by simpa [inL] using h
  rw [List.take_succ_eq_append_getElem h2]
  simp [ics, inL]
theorem txV_ne {a b : Tx} (h : a ≠ b) : a.V ≠ b.V := by
  intro he
  apply h
  obtain ⟨c, n⟩ := a
  obtain ⟨c', n'⟩ := b
  simp [Tx.V] at he
  simp [he]
theorem ent_no {hs : List Hold} {tx : Tx} (h : ∀ x ∈ hs, x.tx ≠ tx) : ∀ y ∈ entL hs, y.1 ≠ tx.V := by
  rintro y hy
  obtain ⟨x, hx, rfl⟩ := List.mem_map.1 hy
  exact txV_ne (h x hx)

theorem By_none (t : Nat) (hs : List Hold) (keys : KL) (tx : Tx) (hok : tx.ok) (hn : ∀ x ∈ hs, x.tx ≠ tx) :
    Fsp Try.prog 13 [.pointer (some ⟨t, 0, none⟩), tx.V] [TabA t hs keys] fun u aa' => u = .slice none 0 0 ∧ aa' = [TabA t hs keys, OwS 41 10 u 0 []] := by
  have hko := keyOk25 hok
  have hno := ent_no hn
  obtain ⟨c, n⟩ := tx
  refine spec_of F13.ok rfl fun gl X => ?_
  dsimp only [List.cons_append, List.nil_append]
  simp only [Tx.V] at hko hno ⊢
  refine en_tab (by repeat (first | with_reducible exact Pk.h | with_reducible apply Pk.t)) fun hb m => ?_
  (repeat (first | ((with_reducible apply t_run); exact rfl) | ((with_reducible apply t_p); exact rfl; exact rfl) | ((with_reducible apply t_gr); exact rfl) | ((with_reducible apply t_ge); exact rfl) | ((with_reducible apply t_ld); exact rfl; exact rfl; (repeat (first | with_reducible exact Pk.h | with_reducible apply Pk.t)); exact rfl) | ((with_reducible apply t_st); exact rfl; exact rfl; exact rfl; (repeat (first | with_reducible exact Pk.h | with_reducible apply Pk.t)); exact rfl; exact rfl; exact Nat.le_of_ble_eq_true rfl; exact rfl; (repeat (first | apply rk_nil | (apply rk_skip; exact rfl) | (apply rk_ld; exact rfl; (repeat (first | with_reducible exact Pk.h | with_reducible apply Pk.t)); exact rfl)))) | ((with_reducible apply t_nx F13.k); exact rfl; exact rfl) | with_reducible apply m_seq | (with_reducible apply m_reg mix) | with_reducible apply m_block | ((with_reducible apply m_ct); exact rfl) | ((with_reducible apply m_cf); exact rfl) | ((with_reducible apply m_skn); exact rfl) | ((with_reducible apply m_exn); exact rfl)))
  refine t_bx rfl rfl rfl fun b3 => ⟨(by (repeat (first | apply rk_nil | (apply rk_skip; exact rfl) | (apply rk_ld; exact rfl; (repeat (first | with_reducible exact Pk.h | with_reducible apply Pk.t)); exact rfl)))), ?_⟩
  try dsimp only [List.cons_append, List.nil_append]
  (repeat (first | ((with_reducible apply t_run); exact rfl) | ((with_reducible apply t_p); exact rfl; exact rfl) | ((with_reducible apply t_gr); exact rfl) | ((with_reducible apply t_ge); exact rfl) | ((with_reducible apply t_ld); exact rfl; exact rfl; (repeat (first | with_reducible exact Pk.h | with_reducible apply Pk.t)); exact rfl) | ((with_reducible apply t_st); exact rfl; exact rfl; exact rfl; (repeat (first | with_reducible exact Pk.h | with_reducible apply Pk.t)); exact rfl; exact rfl; exact Nat.le_of_ble_eq_true rfl; exact rfl; (repeat (first | apply rk_nil | (apply rk_skip; exact rfl) | (apply rk_ld; exact rfl; (repeat (first | with_reducible exact Pk.h | with_reducible apply Pk.t)); exact rfl)))) | ((with_reducible apply t_nx F13.k); exact rfl; exact rfl) | with_reducible apply m_seq | (with_reducible apply m_reg mix) | with_reducible apply m_block | ((with_reducible apply m_ct); exact rfl) | ((with_reducible apply m_cf); exact rfl) | ((with_reducible apply m_skn); exact rfl) | ((with_reducible apply m_exn); exact rfl)))
  refine t_r (v := .pointer none) rfl (look_rv ktx und59 (zrun und71) rfl rfl hko (by repeat (first | with_reducible exact Pk.h | with_reducible apply Pk.t)) (.inl ⟨hno, rfl⟩)) ?_
  (repeat (first | ((with_reducible apply t_run); exact rfl) | ((with_reducible apply t_p); exact rfl; exact rfl) | ((with_reducible apply t_gr); exact rfl) | ((with_reducible apply t_ge); exact rfl) | ((with_reducible apply t_ld); exact rfl; exact rfl; (repeat (first | with_reducible exact Pk.h | with_reducible apply Pk.t)); exact rfl) | ((with_reducible apply t_st); exact rfl; exact rfl; exact rfl; (repeat (first | with_reducible exact Pk.h | with_reducible apply Pk.t)); exact rfl; exact rfl; exact Nat.le_of_ble_eq_true rfl; exact rfl; (repeat (first | apply rk_nil | (apply rk_skip; exact rfl) | (apply rk_ld; exact rfl; (repeat (first | with_reducible exact Pk.h | with_reducible apply Pk.t)); exact rfl)))) | ((with_reducible apply t_nx F13.k); exact rfl; exact rfl) | with_reducible apply m_seq | (with_reducible apply m_reg mix) | with_reducible apply m_block | ((with_reducible apply m_ct); exact rfl) | ((with_reducible apply m_cf); exact rfl) | ((with_reducible apply m_skn); exact rfl) | ((with_reducible apply m_exn); exact rfl)))
  refine en_own (E := 41) (kz := 10) ?_
  refine en_mktab (t := t) (hb := hb) (m := m) (hs := hs) (keys := keys) (by repeat (first | apply Sx.nil | apply Pk.h | apply Sx.cons | apply Pk.t)) ?_
  apply m_ret
  · rfl
  · (repeat (first | apply rs_nil | (apply rs_tmp; exact rfl) | (apply rs_cell; exact rfl; (repeat (first | with_reducible exact Pk.h | with_reducible apply Pk.t)); exact rfl)))
  · exact ⟨rfl, rfl⟩
  · exact (by repeat (first | apply Sx.nil | apply Pk.h | apply Sx.cons | apply Pk.t))

theorem By_some (t : Nat) (hs : List Hold) (keys : KL) (x : Hold) (hx : x ∈ hs) (hok : x.tx.ok) (h0 : 0 < x.ws.length) (hl : x.ws.length ≤ 1073741824) :
    Fsp Try.prog 13 [.pointer (some ⟨t, 0, none⟩), x.tx.V] [TabA t hs keys] fun u aa' => aa' = [TabA t hs keys, OwS 41 10 u (inL x).length (ics (inL x)).flatten] := by
  have hko := keyOk25 hok
  have hmem := ent_mem hx
  obtain ⟨l1, l2, rfl⟩ := List.append_of_mem hx
  have hil : (inL x).length = x.ws.length := by simp [inL]
  refine spec_of F13.ok rfl fun gl X => ?_
  dsimp only [List.cons_append, List.nil_append]
  refine en_tab (by repeat (first | with_reducible exact Pk.h | with_reducible apply Pk.t)) fun hb m => ?_
  refine en_pick (by repeat (first | with_reducible exact Pk.h | with_reducible apply Pk.t)) ?_
  refine en_rds (kz := 3) (xs := wcs x.ws) (by simp [wcs, Wr.cells]) (by rw [wcs_len]; exact h0) (wcs_len x.ws).symm (by repeat (first | with_reducible exact Pk.h | with_reducible apply Pk.t)) fun hv => ?_
  obtain ⟨a, c, hve⟩ := hv.len
  rw [wcs_len] at hve
  have hstep : ∀ i (h : i < x.ws.length), _ := fun i h => ics_step (x := x) h
  obtain ⟨tx, xb, hd, ws, v⟩ := x
  obtain ⟨tc, tn⟩ := tx
  dsimp only at hve hko hmem hok h0 hl hv hstep ⊢
  subst hve
  simp only [Tx.V] at hko hmem ⊢
  (repeat (first | ((with_reducible apply t_run); exact rfl) | ((with_reducible apply t_p); exact rfl; exact rfl) | ((with_reducible apply t_gr); exact rfl) | ((with_reducible apply t_ge); exact rfl) | ((with_reducible apply t_ld); exact rfl; exact rfl; (repeat (first | with_reducible exact Pk.h | with_reducible apply Pk.t)); exact rfl) | ((with_reducible apply t_st); exact rfl; exact rfl; exact rfl; (repeat (first | with_reducible exact Pk.h | with_reducible apply Pk.t)); exact rfl; exact rfl; exact Nat.le_of_ble_eq_true rfl; exact rfl; (repeat (first | apply rk_nil | (apply rk_skip; exact rfl) | (apply rk_ld; exact rfl; (repeat (first | with_reducible exact Pk.h | with_reducible apply Pk.t)); exact rfl)))) | ((with_reducible apply t_nx F13.k); exact rfl; exact rfl) | with_reducible apply m_seq | (with_reducible apply m_reg mix) | with_reducible apply m_block | ((with_reducible apply m_ct); exact rfl) | ((with_reducible apply m_cf); exact rfl) | ((with_reducible apply m_skn); exact rfl) | ((with_reducible apply m_exn); exact rfl)))
  refine t_bx rfl rfl rfl fun b3 => ⟨(by (repeat (first | apply rk_nil | (apply rk_skip; exact rfl) | (apply rk_ld; exact rfl; (repeat (first | with_reducible exact Pk.h | with_reducible apply Pk.t)); exact rfl)))), ?_⟩
  try dsimp only [List.cons_append, List.nil_append]
  (repeat (first | ((with_reducible apply t_run); exact rfl) | ((with_reducible apply t_p); exact rfl; exact rfl) | ((with_reducible apply t_gr); exact rfl) | ((with_reducible apply t_ge); exact rfl) | ((with_reducible apply t_ld); exact rfl; exact rfl; (repeat (first | with_reducible exact Pk.h | with_reducible apply Pk.t)); exact rfl) | ((with_reducible apply t_st); exact rfl; exact rfl; exact rfl; (repeat (first | with_reducible exact Pk.h | with_reducible apply Pk.t)); exact rfl; exact rfl; exact Nat.le_of_ble_eq_true rfl; exact rfl; (repeat (first | apply rk_nil | (apply rk_skip; exact rfl) | (apply rk_ld; exact rfl; (repeat (first | with_reducible exact Pk.h | with_reducible apply Pk.t)); exact rfl)))) | ((with_reducible apply t_nx F13.k); exact rfl; exact rfl) | with_reducible apply m_seq | (with_reducible apply m_reg mix) | with_reducible apply m_block | ((with_reducible apply m_ct); exact rfl) | ((with_reducible apply m_cf); exact rfl) | ((with_reducible apply m_skn); exact rfl) | ((with_reducible apply m_exn); exact rfl)))
  refine t_r (v := .pointer (some ⟨xb, 0, none⟩)) rfl (look_rv ktx und59 (zrun und71) rfl rfl hko (by repeat (first | with_reducible exact Pk.h | with_reducible apply Pk.t)) (.inr hmem)) ?_
  (repeat (first | ((with_reducible apply t_run); exact rfl) | ((with_reducible apply t_p); exact rfl; exact rfl) | ((with_reducible apply t_gr); exact rfl) | ((with_reducible apply t_ge); exact rfl) | ((with_reducible apply t_ld); exact rfl; exact rfl; (repeat (first | with_reducible exact Pk.h | with_reducible apply Pk.t)); exact rfl) | ((with_reducible apply t_st); exact rfl; exact rfl; exact rfl; (repeat (first | with_reducible exact Pk.h | with_reducible apply Pk.t)); exact rfl; exact rfl; exact Nat.le_of_ble_eq_true rfl; exact rfl; (repeat (first | apply rk_nil | (apply rk_skip; exact rfl) | (apply rk_ld; exact rfl; (repeat (first | with_reducible exact Pk.h | with_reducible apply Pk.t)); exact rfl)))) | ((with_reducible apply t_nx F13.k); exact rfl; exact rfl) | with_reducible apply m_seq | (with_reducible apply m_reg mix) | with_reducible apply m_block | ((with_reducible apply m_ct); exact rfl) | ((with_reducible apply m_cf); exact rfl) | ((with_reducible apply m_skn); exact rfl) | ((with_reducible apply m_exn); exact rfl)))
  refine t_r (v := .pointer (some ⟨xb, 0, none⟩)) rfl (look_rv ktx und59 (zrun und71) rfl rfl hko (by repeat (first | with_reducible exact Pk.h | with_reducible apply Pk.t)) (.inr hmem)) ?_
  simp only [hdC]
  (repeat (first | ((with_reducible apply t_run); exact rfl) | ((with_reducible apply t_p); exact rfl; exact rfl) | ((with_reducible apply t_gr); exact rfl) | ((with_reducible apply t_ge); exact rfl) | ((with_reducible apply t_ld); exact rfl; exact rfl; (repeat (first | with_reducible exact Pk.h | with_reducible apply Pk.t)); exact rfl) | ((with_reducible apply t_st); exact rfl; exact rfl; exact rfl; (repeat (first | with_reducible exact Pk.h | with_reducible apply Pk.t)); exact rfl; exact rfl; exact Nat.le_of_ble_eq_true rfl; exact rfl; (repeat (first | apply rk_nil | (apply rk_skip; exact rfl) | (apply rk_ld; exact rfl; (repeat (first | with_reducible exact Pk.h | with_reducible apply Pk.t)); exact rfl)))) | ((with_reducible apply t_nx F13.k); exact rfl; exact rfl) | with_reducible apply m_seq | (with_reducible apply m_reg mix) | with_reducible apply m_block | ((with_reducible apply m_ct); exact rfl) | ((with_reducible apply m_cf); exact rfl) | ((with_reducible apply m_skn); exact rfl) | ((with_reducible apply m_exn); exact rfl)))
  generalize hX : (Hold.mk ⟨tc, tn⟩ xb hd ws (.slice a ws.length c)) = Y at hx hmem hil hstep ⊢
  refine en_own (E := 41) (kz := 10) ?_
  refine m_lp (α := Nat × Value) (fun z => [(29, .int .i64 (z.1 : Nat)), (0, .pointer (some ⟨t, 0, none⟩)), (3, .pointer (some ⟨b3, 0, none⟩)), (5, z.2), (27, .slice a ws.length c), (28, .int .i64 (ws.length : Nat))])
    (fun z => [OwS 41 10 z.2 z.1 (ics ((inL Y).take z.1)).flatten, Cl b3 25 [.int .u32 tc, .int .u32 tn], Cl xb 75 (hdC hd (.slice a ws.length c)), OwS 39 3 (.slice a ws.length c) ws.length (wcs ws).flatten, HsA (l1 ++ l2),
      Cl t 65 [.map (some hb), .pointer (some ⟨m, 0, none⟩)], MpO Try.prog 25 hb (entL (l1 ++ Y :: l2)), MpA m keys, X]) (fun z => z.1 ≤ ws.length) (fun z => ws.length - z.1) ?_ (0, .slice none 0 0) (by simp) [29, 0, 3, 5, 27, 28] rfl (by repeat (first | apply Sx.nil | apply Pk.h | apply Sx.cons | apply Pk.t))
  rintro ⟨i, v⟩ hi
  dsimp only at hi ⊢
  simp only [hdC]
  (repeat (first | ((with_reducible apply t_run); exact rfl) | ((with_reducible apply t_p); exact rfl; exact rfl) | ((with_reducible apply t_gr); exact rfl) | ((with_reducible apply t_ge); exact rfl) | ((with_reducible apply t_ld); exact rfl; exact rfl; (repeat (first | with_reducible exact Pk.h | with_reducible apply Pk.t)); exact rfl) | ((with_reducible apply t_st); exact rfl; exact rfl; exact rfl; (repeat (first | with_reducible exact Pk.h | with_reducible apply Pk.t)); exact rfl; exact rfl; exact Nat.le_of_ble_eq_true rfl; exact rfl; (repeat (first | apply rk_nil | (apply rk_skip; exact rfl) | (apply rk_ld; exact rfl; (repeat (first | with_reducible exact Pk.h | with_reducible apply Pk.t)); exact rfl)))) | ((with_reducible apply t_nx F13.k); exact rfl; exact rfl) | with_reducible apply m_seq | (with_reducible apply m_reg mix) | with_reducible apply m_block | ((with_reducible apply m_ct); exact rfl) | ((with_reducible apply m_cf); exact rfl) | ((with_reducible apply m_skn); exact rfl) | ((with_reducible apply m_exn); exact rfl)))
  refine m_cond rfl (fun q => ?_) (fun q => ?_)
  · have hi' : i < ws.length := by have := of_decide_eq_true q; omega
    have hst := hstep i hi'
    obtain ⟨b, o, rfl, _⟩ := hv.ptr (by rw [wcs_len]; omega)
    (repeat (first | ((with_reducible apply t_run); exact rfl) | ((with_reducible apply t_p); exact rfl; exact rfl) | ((with_reducible apply t_gr); exact rfl) | ((with_reducible apply t_ge); exact rfl) | ((with_reducible apply t_ld); exact rfl; exact rfl; (repeat (first | with_reducible exact Pk.h | with_reducible apply Pk.t)); exact rfl) | ((with_reducible apply t_st); exact rfl; exact rfl; exact rfl; (repeat (first | with_reducible exact Pk.h | with_reducible apply Pk.t)); exact rfl; exact rfl; exact Nat.le_of_ble_eq_true rfl; exact rfl; (repeat (first | apply rk_nil | (apply rk_skip; exact rfl) | (apply rk_ld; exact rfl; (repeat (first | with_reducible exact Pk.h | with_reducible apply Pk.t)); exact rfl)))) | ((with_reducible apply t_nx F13.k); exact rfl; exact rfl) | with_reducible apply m_seq | (with_reducible apply m_reg mix) | with_reducible apply m_block | ((with_reducible apply m_ct); exact rfl) | ((with_reducible apply m_cf); exact rfl) | ((with_reducible apply m_skn); exact rfl) | ((with_reducible apply m_exn); exact rfl)))
    refine t_ia i rfl rfl rfl hi' ?_
    refine t_la rfl rfl (R := OwS 39 3 (.slice (some ⟨b, o, none⟩) ws.length c) ws.length (wcs ws).flatten) (by repeat (first | with_reducible exact Pk.h | with_reducible apply Pk.t)) (hv.at (by decide) (i := i) (x := ws[i].cells) (by simp [wcs, hi'])) ?_
    refine t_al rfl fun b7 => ⟨(by (repeat (first | apply rk_nil | (apply rk_skip; exact rfl) | (apply rk_ld; exact rfl; (repeat (first | with_reducible exact Pk.h | with_reducible apply Pk.t)); exact rfl)))), ?_⟩
    simp only [Wr.cells]
    (repeat (first | ((with_reducible apply t_run); exact rfl) | ((with_reducible apply t_p); exact rfl; exact rfl) | ((with_reducible apply t_gr); exact rfl) | ((with_reducible apply t_ge); exact rfl) | ((with_reducible apply t_ld); exact rfl; exact rfl; (repeat (first | with_reducible exact Pk.h | with_reducible apply Pk.t)); exact rfl) | ((with_reducible apply t_st); exact rfl; exact rfl; exact rfl; (repeat (first | with_reducible exact Pk.h | with_reducible apply Pk.t)); exact rfl; exact rfl; exact Nat.le_of_ble_eq_true rfl; exact rfl; (repeat (first | apply rk_nil | (apply rk_skip; exact rfl) | (apply rk_ld; exact rfl; (repeat (first | with_reducible exact Pk.h | with_reducible apply Pk.t)); exact rfl)))) | ((with_reducible apply t_nx F13.k); exact rfl; exact rfl) | with_reducible apply m_seq | (with_reducible apply m_reg mix) | with_reducible apply m_block | ((with_reducible apply m_ct); exact rfl) | ((with_reducible apply m_cf); exact rfl) | ((with_reducible apply m_skn); exact rfl) | ((with_reducible apply m_exn); exact rfl)))
    refine t_r (v := .pointer (some ⟨xb, 0, none⟩)) rfl (look_rv ktx und59 (zrun und71) rfl rfl hko (by repeat (first | with_reducible exact Pk.h | with_reducible apply Pk.t)) (.inr hmem)) ?_
    (repeat (first | ((with_reducible apply t_run); exact rfl) | ((with_reducible apply t_p); exact rfl; exact rfl) | ((with_reducible apply t_gr); exact rfl) | ((with_reducible apply t_ge); exact rfl) | ((with_reducible apply t_ld); exact rfl; exact rfl; (repeat (first | with_reducible exact Pk.h | with_reducible apply Pk.t)); exact rfl) | ((with_reducible apply t_st); exact rfl; exact rfl; exact rfl; (repeat (first | with_reducible exact Pk.h | with_reducible apply Pk.t)); exact rfl; exact rfl; exact Nat.le_of_ble_eq_true rfl; exact rfl; (repeat (first | apply rk_nil | (apply rk_skip; exact rfl) | (apply rk_ld; exact rfl; (repeat (first | with_reducible exact Pk.h | with_reducible apply Pk.t)); exact rfl)))) | ((with_reducible apply t_nx F13.k); exact rfl; exact rfl) | with_reducible apply m_seq | (with_reducible apply m_reg mix) | with_reducible apply m_block | ((with_reducible apply m_ct); exact rfl) | ((with_reducible apply m_cf); exact rfl) | ((with_reducible apply m_skn); exact rfl) | ((with_reducible apply m_exn); exact rfl)))
    refine t_cl rfl rfl (intent_spec xb hd _ ⟨tc, tn⟩ ws[i]) (by repeat (first | apply Sx.nil | apply Pk.h | apply Sx.cons | apply Pk.t)) ?_
    rintro _ _ ⟨rfl, rfl⟩
    refine ⟨?_, ?_⟩ <;> (try dsimp only [List.cons_append, List.nil_append])
    · (repeat (first | apply rk_nil | (apply rk_skip; exact rfl) | (apply rk_ld; exact rfl; (repeat (first | with_reducible exact Pk.h | with_reducible apply Pk.t)); exact rfl)))
    refine t_bsl sl42 rfl rfl rfl rfl rfl rfl rfl rfl fun bs => ⟨(by (repeat (first | apply rk_nil | (apply rk_skip; exact rfl) | (apply rk_ld; exact rfl; (repeat (first | with_reducible exact Pk.h | with_reducible apply Pk.t)); exact rfl)))), ?_⟩
    try dsimp only [List.cons_append, List.nil_append]
    refine t_app sl42 rfl rfl rfl (by repeat (first | with_reducible exact Pk.h | with_reducible apply Pk.t)) (by repeat (first | with_reducible exact Pk.h | with_reducible apply Pk.t)) rfl (by decide) (by decide) rfl rfl rfl (by omega) (by omega) fun v' => ⟨(by (repeat (first | apply rk_nil | (apply rk_skip; exact rfl) | (apply rk_ld; exact rfl; (repeat (first | with_reducible exact Pk.h | with_reducible apply Pk.t)); exact rfl)))), ?_⟩
    try dsimp only [List.cons_append, List.nil_append]
    refine en_x (x := OwS 41 10 v' (i + 1) _) (OwS 41 10 v' (i + 1) (ics ((inL Y).take (i + 1))).flatten) (by repeat (first | with_reducible exact Pk.h | with_reducible apply Pk.t)) (by rw [hst]; rfl) ?_
    (repeat (first | ((with_reducible apply t_run); exact rfl) | ((with_reducible apply t_p); exact rfl; exact rfl) | ((with_reducible apply t_gr); exact rfl) | ((with_reducible apply t_ge); exact rfl) | ((with_reducible apply t_ld); exact rfl; exact rfl; (repeat (first | with_reducible exact Pk.h | with_reducible apply Pk.t)); exact rfl) | ((with_reducible apply t_st); exact rfl; exact rfl; exact rfl; (repeat (first | with_reducible exact Pk.h | with_reducible apply Pk.t)); exact rfl; exact rfl; exact Nat.le_of_ble_eq_true rfl; exact rfl; (repeat (first | apply rk_nil | (apply rk_skip; exact rfl) | (apply rk_ld; exact rfl; (repeat (first | with_reducible exact Pk.h | with_reducible apply Pk.t)); exact rfl)))) | ((with_reducible apply t_nx F13.k); exact rfl; exact rfl) | with_reducible apply m_seq | (with_reducible apply m_reg mix) | with_reducible apply m_block | ((with_reducible apply m_ct); exact rfl) | ((with_reducible apply m_cf); exact rfl) | ((with_reducible apply m_skn); exact rfl) | ((with_reducible apply m_exn); exact rfl)))
    refine t_meet rfl (i + 1, v') ⟨hi', (by simp; omega)⟩ [29, 0, 3, 5, 27, 28] ?_ (by repeat (first | apply Sx.nil | apply Pk.h | apply Sx.cons | apply Pk.t))
    rw [wrap_nat (by omega)]
    rfl
  · have hi' : i = ws.length := by have := of_decide_eq_false q; omega
    (repeat (first | ((with_reducible apply t_run); exact rfl) | ((with_reducible apply t_p); exact rfl; exact rfl) | ((with_reducible apply t_gr); exact rfl) | ((with_reducible apply t_ge); exact rfl) | ((with_reducible apply t_ld); exact rfl; exact rfl; (repeat (first | with_reducible exact Pk.h | with_reducible apply Pk.t)); exact rfl) | ((with_reducible apply t_st); exact rfl; exact rfl; exact rfl; (repeat (first | with_reducible exact Pk.h | with_reducible apply Pk.t)); exact rfl; exact rfl; exact Nat.le_of_ble_eq_true rfl; exact rfl; (repeat (first | apply rk_nil | (apply rk_skip; exact rfl) | (apply rk_ld; exact rfl; (repeat (first | with_reducible exact Pk.h | with_reducible apply Pk.t)); exact rfl)))) | ((with_reducible apply t_nx F13.k); exact rfl; exact rfl) | with_reducible apply m_seq | (with_reducible apply m_reg mix) | with_reducible apply m_block | ((with_reducible apply m_ct); exact rfl) | ((with_reducible apply m_cf); exact rfl) | ((with_reducible apply m_skn); exact rfl) | ((with_reducible apply m_exn); exact rfl)))
    subst hX
    refine en_put (x := Hold.mk ⟨tc, tn⟩ xb hd ws (.slice a ws.length c)) (l1 := l1) (l2 := l2) (by repeat (first | apply Sx.nil | apply Pk.h | apply Sx.cons | apply Pk.t)) ?_
    refine en_mktab (t := t) (hb := hb) (m := m) (hs := l1 ++ _ :: l2) (keys := keys) (by repeat (first | apply Sx.nil | apply Pk.h | apply Sx.cons | apply Pk.t)) ?_
    rw [List.take_of_length_le (by rw [hil]; exact Nat.le_of_eq hi'.symm), hi', ← hil]
    apply m_ret
    · rfl
    · (repeat (first | apply rs_nil | (apply rs_tmp; exact rfl) | (apply rs_cell; exact rfl; (repeat (first | with_reducible exact Pk.h | with_reducible apply Pk.t)); exact rfl)))
    · exact rfl
    · exact (by repeat (first | apply Sx.nil | apply Pk.h | apply Sx.cons | apply Pk.t))
end Go.Proofs.Ythcbefkgfhokoaa
