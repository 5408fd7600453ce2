/- Parts A2 BN BP C2 BU BV of the proof. -/
import Derived.Test.YthcbefkgfhokoaaProg
import Derived.Test.YthcbefkgfhokoaaMR1
import Derived.KernelRfl
import Derived.Test.YthcbefkgfhokoaaMR4
import Derived.Test.YthcbefkgfhokoaaRows
import Derived.WalkKit
import Derived.ProofKit
import Derived.OpenShut
/- The plain form of functions of the program (printed by a program of this session). -/
set_option maxRecDepth 100000
namespace Go.Proofs.Ythcbefkgfhokoaa
open Go Go.Dv

/- dovecote.dovecotelaw10.LatchFirst -/
abbrev F3b0 : MC :=
  .seq (.reg <| .rd (some 25) none none (.bin .lss (.tmp 24) (.tmp 23)) <|
    .done) <|
  .seq (.cond (.tmp 25) (.skip) <|
  .exit 0) <|
  .seq (.block 1 <|
  .seq (.reg <| .rd (some 26) none none (.mv (.tmp 24)) <|
    .rd (some 27) none none (.ia 12 (.tmp 22) (.tmp 24)) <|
    .rd (some 28) none none (.ld (some 12) (.tmp 27)) <|
    .ef (some 7) none 0 (.al 32 [(.int .i64 0), (.int .u32 0), (.int .u32 0), (.int .u64 0), (.int .u32 0), (.int .u64 0), (.int .u32 0), (.string ⟨#[]⟩), (.slice none 0 0), (.string ⟨#[]⟩), (.string ⟨#[]⟩), (.slice none 0 0)]) <|
    .rd (some 6) none none (.mv (.tmp 26)) <|
    .ef none none 0 (.st 12 (.tmp 7) (.tmp 28)) <|
    .done) <|
  .seq (.seq (.reg <| .rd (some 29) none none (.mv (.tmp 6)) <|
    .rd (some 30) none none (.bin .eql (.tmp 29) (.const (.int .i64 60))) <|
    .done) <|
  .cond (.tmp 30) (.exit 0) <|
  .skip) <|
  .seq (.reg <| .rd (some 31) none none (.fa 0 (.tmp 7)) <|
    .rd (some 32) none none (.ld none (.tmp 31)) <|
    .rd (some 33) none none (.bin .neq (.tmp 32) (.const (.int .i64 1))) <|
    .done) <|
  .cond (.tmp 33) (.reg <| .rd (some 34) none none (.mv (.tmp 5)) <|
    .rd (some 35) none none (.fa 1 (.tmp 7)) <|
    .rd (some 36) none none (.ld (some 2) (.tmp 35)) <|
    .rd (some 37) none none (.fa 3 (.tmp 7)) <|
    .rd (some 38) none none (.ld (some 2) (.tmp 37)) <|
    .rd (some 39) none none (.fa 5 (.tmp 7)) <|
    .rd (some 40) none none (.ld (some 2) (.tmp 39)) <|
    .rd (some 41) none none (.fa 7 (.tmp 7)) <|
    .rd (some 42) none none (.ld none (.tmp 41)) <|
    .rd (some 43) none none (.fa 8 (.tmp 7)) <|
    .rd (some 44) none none (.ld none (.tmp 43)) <|
    .ef (some 45) none 0 (.cl 10 [(.tmp 34), (.tmp 36), (.tmp 38), (.tmp 40), (.tmp 42), (.tmp 44)]) <|
    .done) <|
  .skip) <|
  .reg <| .rd (some 46) none none (.bin .add (.tmp 24) (.const (.int .i64 1))) <|
    .rd (some 24) none none (.mv (.tmp 46)) <|
    .done
abbrev F3b1 : MC :=
  .seq (.reg <| .rd (some 107) none none (.bin .lss (.tmp 106) (.tmp 105)) <|
    .done) <|
  .seq (.cond (.tmp 107) (.skip) <|
  .exit 4) <|
  .seq (.block 5 <|
  .seq (.reg <| .rd (some 108) none none (.ia 2 (.tmp 104) (.tmp 106)) <|
    .rd (some 109) none none (.ld (some 2) (.tmp 108)) <|
    .ef (some 16) none 0 (.al 25 [(.int .u32 0), (.int .u32 0)]) <|
    .ef none none 0 (.st 2 (.tmp 16) (.tmp 109)) <|
    .done) <|
  .reg <| .rd (some 110) none none (.mv (.tmp 14)) <|
    .rd (some 111) none none (.mv (.tmp 110)) <|
    .rd (some 112) (some (111, true)) none (.ld (some 2) (.tmp 16)) <|
    .rd (some 113) (some (111, true)) none (.fa 0 (.tmp 12)) <|
    .rd (some 114) (some (111, true)) none (.ld (some 2) (.tmp 113)) <|
    .rd (some 115) (some (111, true)) none (.eqs true [(.int .u32), (.int .u32)] (.tmp 112) (.tmp 114)) <|
    .rd (some 116) none none (.pick (.tmp 111) (.tmp 115) (.const (.bool false))) <|
    .rd (some 14) none none (.mv (.tmp 116)) <|
    .done) <|
  .reg <| .rd (some 117) none none (.bin .add (.tmp 106) (.const (.int .i64 1))) <|
    .rd (some 106) none none (.mv (.tmp 117)) <|
    .done
abbrev F3b2 : MC :=
  .seq (.reg <| .rd (some 51) none none (.bin .lss (.tmp 50) (.tmp 49)) <|
    .done) <|
  .seq (.cond (.tmp 51) (.skip) <|
  .exit 2) <|
  .seq (.block 3 <|
  .seq (.reg <| .rd (some 52) none none (.ia 10 (.tmp 48) (.tmp 50)) <|
    .rd (some 53) none none (.ld (some 10) (.tmp 52)) <|
    .ef (some 12) none 0 (.al 41 [(.int .u32 0), (.int .u32 0), (.int .u64 0), (.int .u32 0), (.int .u64 0), (.int .u32 0), (.string ⟨#[]⟩), (.string ⟨#[]⟩), (.string ⟨#[]⟩), (.bool false)]) <|
    .ef none none 0 (.st 10 (.tmp 12) (.tmp 53)) <|
    .done) <|
  .seq (.reg <| .rd (some 54) none none (.fa 7 (.tmp 12)) <|
    .rd (some 55) none none (.fa 0 (.tmp 54)) <|
    .rd (some 56) none none (.ld none (.tmp 55)) <|
    .rd (some 13) none none (.mv (.tmp 56)) <|
    .done) <|
  .seq (.seq (.reg <| .rd (some 57) none none (.mv (.tmp 13)) <|
    .rd (some 58) none none (.mv (.tmp 10)) <|
    .rd (some 59) none none (.bin .leq (.tmp 57) (.tmp 58)) <|
    .done) <|
  .cond (.tmp 59) (.seq (.reg <| .rd (some 4) none none (.mv (.const (.bool false))) <|
    .done) <|
  .ret) <|
  .skip) <|
  .seq (.reg <| .rd (some 60) none none (.mv (.tmp 13)) <|
    .rd (some 10) none none (.mv (.tmp 60)) <|
    .done) <|
  .seq (.reg <| .rd (some 61) none none (.mv (.tmp 13)) <|
    .rd (some 62) none none (.fa 9 (.tmp 3)) <|
    .rd (some 63) none none (.ld none (.tmp 62)) <|
    .rd (some 64) none none (.bin .geq (.tmp 61) (.tmp 63)) <|
    .rd (some 65) none none (.mv (.tmp 64)) <|
    .rd (some 66) (some (65, true)) none (.fa 10 (.tmp 3)) <|
    .rd (some 67) (some (65, true)) none (.ld none (.tmp 66)) <|
    .rd (some 68) (some (65, true)) none (.bin .eql (.tmp 67) (.const (.string ⟨#[]⟩))) <|
    .rd (some 69) (some (65, true)) none (.mv (.tmp 68)) <|
    .rd (some 70) (some (69, false)) none (.mv (.tmp 13)) <|
    .rd (some 71) (some (69, false)) none (.fa 10 (.tmp 3)) <|
    .rd (some 72) (some (69, false)) none (.ld none (.tmp 71)) <|
    .rd (some 73) (some (69, false)) none (.bin .lss (.tmp 70) (.tmp 72)) <|
    .rd (some 74) (some (65, true)) none (.pick (.tmp 69) (.const (.bool true)) (.tmp 73)) <|
    .rd (some 75) none none (.pick (.tmp 65) (.tmp 74) (.const (.bool false))) <|
    .rd (some 76) none none (.mv (.tmp 75)) <|
    .rd (some 77) (some (76, true)) none (.fa 4 (.tmp 12)) <|
    .rd (some 78) (some (76, true)) none (.fa 0 (.tmp 77)) <|
    .rd (some 79) (some (76, true)) none (.ld none (.tmp 78)) <|
    .rd (some 80) (some (76, true)) none (.fa 5 (.tmp 3)) <|
    .rd (some 81) (some (76, true)) none (.fa 0 (.tmp 80)) <|
    .rd (some 82) (some (76, true)) none (.ld none (.tmp 81)) <|
    .rd (some 83) (some (76, true)) none (.bin .lss (.tmp 79) (.tmp 82)) <|
    .rd (some 84) (some (76, true)) none (.mv (.tmp 83)) <|
    .rd (some 85) (some (84, false)) none (.fa 4 (.tmp 12)) <|
    .rd (some 86) (some (84, false)) none (.fa 0 (.tmp 85)) <|
    .rd (some 87) (some (84, false)) none (.ld none (.tmp 86)) <|
    .rd (some 88) (some (84, false)) none (.fa 5 (.tmp 3)) <|
    .rd (some 89) (some (84, false)) none (.fa 0 (.tmp 88)) <|
    .rd (some 90) (some (84, false)) none (.ld none (.tmp 89)) <|
    .rd (some 91) (some (84, false)) none (.bin .eql (.tmp 87) (.tmp 90)) <|
    .rd (some 92) (some (84, false)) none (.mv (.tmp 91)) <|
    .rd (some 93) (some (92, true)) none (.fa 4 (.tmp 12)) <|
    .rd (some 94) (some (92, true)) none (.fa 1 (.tmp 93)) <|
    .rd (some 95) (some (92, true)) none (.ld none (.tmp 94)) <|
    .rd (some 96) (some (92, true)) none (.fa 5 (.tmp 3)) <|
    .rd (some 97) (some (92, true)) none (.fa 1 (.tmp 96)) <|
    .rd (some 98) (some (92, true)) none (.ld none (.tmp 97)) <|
    .rd (some 99) (some (92, true)) none (.bin .leq (.tmp 95) (.tmp 98)) <|
    .rd (some 100) (some (84, false)) none (.pick (.tmp 92) (.tmp 99) (.const (.bool false))) <|
    .rd (some 101) (some (76, true)) none (.pick (.tmp 84) (.const (.bool true)) (.tmp 100)) <|
    .rd (some 102) none none (.pick (.tmp 76) (.tmp 101) (.const (.bool false))) <|
    .rd (some 14) none none (.mv (.tmp 102)) <|
    .done) <|
  .seq (.seq (.reg <| .rd (some 103) none none (.fa 11 (.tmp 3)) <|
    .rd (some 104) none none (.ld none (.tmp 103)) <|
    .rd (some 105) none none (.len (.tmp 104)) <|
    .rd (some 106) none none (.mv (.const (.int .i64 0))) <|
    .done) <|
  .block 4 <|
  .loop F3b1) <|
  .seq (.reg <| .rd (some 118) none none (.mv (.tmp 14)) <|
    .rd (some 119) none none (.mv (.tmp 118)) <|
    .rd (some 120) (some (119, true)) none (.mv (.tmp 9)) <|
    .rd (some 121) (some (119, true)) none (.un .not (.tmp 120)) <|
    .rd (some 122) none none (.pick (.tmp 119) (.tmp 121) (.const (.bool false))) <|
    .done) <|
  .cond (.tmp 122) (.reg <| .rd (some 123) none none (.ld (some 10) (.tmp 12)) <|
    .ef none none 0 (.st 10 (.tmp 8) (.tmp 123)) <|
    .rd (some 9) none none (.mv (.const (.bool true))) <|
    .done) <|
  .skip) <|
  .reg <| .rd (some 124) none none (.bin .add (.tmp 50) (.const (.int .i64 1))) <|
    .rd (some 50) none none (.mv (.tmp 124)) <|
    .done
def F3 : MF := ⟨146, [(4, none)],
  .seq (.reg <| .ef (some 3) none 0 (.bx 32 12 (.tmp 1)) <|
    .rd (some 4) none none (.mv (.const (.bool false))) <|
    .done) <|
  .seq (.seq (.reg <| .ef (some 19) none 0 (.cl 8 []) <|
    .rd (some 20) none none (.un .not (.tmp 19)) <|
    .done) <|
  .cond (.tmp 20) (.seq (.reg <| .rd (some 4) none none (.mv (.const (.bool false))) <|
    .done) <|
  .ret) <|
  .skip) <|
  .seq (.reg <| .ef (some 21) none 0 (.cl 9 []) <|
    .rd (some 5) none none (.mv (.tmp 21)) <|
    .done) <|
  .seq (.seq (.reg <| .rd (some 22) none none (.mv (.tmp 0)) <|
    .rd (some 23) none none (.len (.tmp 22)) <|
    .rd (some 24) none none (.mv (.const (.int .i64 0))) <|
    .done) <|
  .block 0 <|
  .loop F3b0) <|
  .seq (.reg <| .ef (some 8) none 0 (.al 41 [(.int .u32 0), (.int .u32 0), (.int .u64 0), (.int .u32 0), (.int .u64 0), (.int .u32 0), (.string ⟨#[]⟩), (.string ⟨#[]⟩), (.string ⟨#[]⟩), (.bool false)]) <|
    .done) <|
  .seq (.reg <| .rd (some 9) none none (.mv (.const (.bool false))) <|
    .done) <|
  .seq (.reg <| .rd (some 10) none none (.mv (.const (.string ⟨#[]⟩))) <|
    .done) <|
  .seq (.seq (.reg <| .rd (some 47) none none (.mv (.tmp 5)) <|
    .ef (some 48) none 0 (.cl 11 [(.tmp 47)]) <|
    .rd (some 49) none none (.len (.tmp 48)) <|
    .rd (some 50) none none (.mv (.const (.int .i64 0))) <|
    .done) <|
  .block 2 <|
  .loop F3b2) <|
  .seq (.reg <| .rd (some 126) none none (.mv (.tmp 5)) <|
    .rd (some 127) none none (.fa 9 (.tmp 3)) <|
    .rd (some 128) none none (.ld none (.tmp 127)) <|
    .rd (some 129) none none (.fa 10 (.tmp 3)) <|
    .rd (some 130) none none (.ld none (.tmp 129)) <|
    .rd (some 131) none none (.fa 5 (.tmp 3)) <|
    .rd (some 132) none none (.ld (some 2) (.tmp 131)) <|
    .rd (some 133) none none (.fa 11 (.tmp 3)) <|
    .rd (some 134) none none (.ld none (.tmp 133)) <|
    .ef (some 135) none 0 (.cl 12 [(.tmp 126), (.tmp 128), (.tmp 130), (.tmp 132), (.tmp 134)]) <|
    .rd (some 125) none none (.mv (.tmp 135)) <|
    .rd (some 136) none none (.ext (.tmp 125) 0) <|
    .rd (some 137) none none (.ext (.tmp 125) 1) <|
    .ef (some 17) none 0 (.al 41 [(.int .u32 0), (.int .u32 0), (.int .u64 0), (.int .u32 0), (.int .u64 0), (.int .u32 0), (.string ⟨#[]⟩), (.string ⟨#[]⟩), (.string ⟨#[]⟩), (.bool false)]) <|
    .ef none none 0 (.st 10 (.tmp 17) (.tmp 136)) <|
    .rd (some 18) none none (.mv (.tmp 137)) <|
    .done) <|
  .seq (.reg <| .rd (some 138) none none (.ld (some 10) (.tmp 17)) <|
    .rd (some 139) none none (.ld (some 10) (.tmp 8)) <|
    .rd (some 140) none none (.eqs false [(.int .u32), (.int .u32), (.int .u64), (.int .u32), (.int .u64), (.int .u32), .str, .str, .str, .bool] (.tmp 138) (.tmp 139)) <|
    .rd (some 141) none none (.mv (.tmp 140)) <|
    .rd (some 142) (some (141, true)) none (.mv (.tmp 18)) <|
    .rd (some 143) (some (141, true)) none (.mv (.tmp 9)) <|
    .rd (some 144) (some (141, true)) none (.eqb false (.tmp 142) (.tmp 143)) <|
    .rd (some 145) none none (.pick (.tmp 141) (.tmp 144) (.const (.bool false))) <|
    .rd (some 4) none none (.mv (.tmp 145)) <|
    .done) <|
  .ret⟩
def F3.k : List Nat := [0, 1, 3, 4, 5, 6, 7, 8, 9, 10, 12, 13, 14, 16, 17, 18, 20, 22, 23, 24, 25, 30, 33, 48, 49, 50, 51, 59, 104, 105, 106, 107, 122]
theorem F3.ok : trF Try.prog 3 = some F3 := by kernel_rfl

/- dovecote.dovecotelaw10.LatchWhole -/
abbrev F4b0 : MC :=
  .seq (.reg <| .rd (some 16) none none (.bin .lss (.tmp 15) (.tmp 14)) <|
    .done) <|
  .seq (.cond (.tmp 16) (.skip) <|
  .exit 0) <|
  .seq (.block 1 <|
  .seq (.reg <| .rd (some 17) none none (.mv (.tmp 15)) <|
    .rd (some 18) none none (.ia 12 (.tmp 13) (.tmp 15)) <|
    .rd (some 19) none none (.ld (some 12) (.tmp 18)) <|
    .ef (some 5) none 0 (.al 32 [(.int .i64 0), (.int .u32 0), (.int .u32 0), (.int .u64 0), (.int .u32 0), (.int .u64 0), (.int .u32 0), (.string ⟨#[]⟩), (.slice none 0 0), (.string ⟨#[]⟩), (.string ⟨#[]⟩), (.slice none 0 0)]) <|
    .rd (some 4) none none (.mv (.tmp 17)) <|
    .ef none none 0 (.st 12 (.tmp 5) (.tmp 19)) <|
    .done) <|
  .seq (.seq (.reg <| .rd (some 20) none none (.mv (.tmp 4)) <|
    .rd (some 21) none none (.bin .eql (.tmp 20) (.const (.int .i64 60))) <|
    .done) <|
  .cond (.tmp 21) (.exit 0) <|
  .skip) <|
  .seq (.reg <| .rd (some 22) none none (.mv (.tmp 3)) <|
    .rd (some 25) none none (.mv (.tmp 3)) <|
    .rd (some 26) none none (.fa 1 (.tmp 5)) <|
    .rd (some 27) none (some 64) (.ld (some 2) (.tmp 26)) <|
    .ef (some 23) none 1 (.cl 11 [(.tmp 22)]) <|
    .rd (some 24) none none (.len (.tmp 23)) <|
    .ef (some 28) none 6 (.cl 13 [(.tmp 25), (.tmp 27)]) <|
    .rd (some 29) none none (.len (.tmp 28)) <|
    .rd (some 6) none none (.mv (.tmp 24)) <|
    .rd (some 7) none none (.mv (.tmp 29)) <|
    .done) <|
  .seq (.reg <| .rd (some 30) none none (.fa 0 (.tmp 5)) <|
    .rd (some 31) none none (.ld none (.tmp 30)) <|
    .done) <|
  .block 2 <|
  .seq (.seq (.reg <| .rd (some 33) none none (.bin .eql (.tmp 31) (.const (.int .i64 0))) <|
    .rd (some 32) none none (.mv (.tmp 33)) <|
    .done) <|
  .cond (.tmp 32) (.skip) <|
  .reg <| .rd (some 34) none none (.bin .eql (.tmp 31) (.const (.int .i64 3))) <|
    .rd (some 32) none none (.mv (.tmp 34)) <|
    .done) <|
  .cond (.tmp 32) (.seq (.reg <| .rd (some 35) none none (.mv (.tmp 3)) <|
    .rd (some 36) none none (.fa 1 (.tmp 5)) <|
    .rd (some 37) none none (.ld (some 2) (.tmp 36)) <|
    .rd (some 38) none none (.fa 3 (.tmp 5)) <|
    .rd (some 39) none none (.ld (some 2) (.tmp 38)) <|
    .rd (some 40) none none (.fa 5 (.tmp 5)) <|
    .rd (some 41) none none (.ld (some 2) (.tmp 40)) <|
    .rd (some 42) none none (.fa 7 (.tmp 5)) <|
    .rd (some 43) none none (.ld none (.tmp 42)) <|
    .rd (some 44) none none (.fa 8 (.tmp 5)) <|
    .rd (some 45) none none (.ld none (.tmp 44)) <|
    .ef (some 46) none 0 (.cl 10 [(.tmp 35), (.tmp 37), (.tmp 39), (.tmp 41), (.tmp 43), (.tmp 45)]) <|
    .rd (some 8) none none (.mv (.tmp 46)) <|
    .done) <|
  .seq (.reg <| .rd (some 9) none none (.mv (.const (.int .i64 0))) <|
    .done) <|
  .seq (.seq (.reg <| .rd (some 47) none none (.mv (.tmp 8)) <|
    .rd (some 48) none none (.bin .eql (.tmp 47) (.const (.int .i64 0))) <|
    .done) <|
  .cond (.tmp 48) (.reg <| .rd (some 49) none none (.fa 8 (.tmp 5)) <|
    .rd (some 50) none none (.ld none (.tmp 49)) <|
    .rd (some 51) none none (.len (.tmp 50)) <|
    .rd (some 9) none none (.mv (.tmp 51)) <|
    .done) <|
  .skip) <|
  .seq (.reg <| .rd (some 52) none none (.mv (.tmp 3)) <|
    .ef (some 53) none 0 (.cl 11 [(.tmp 52)]) <|
    .rd (some 54) none none (.len (.tmp 53)) <|
    .rd (some 55) none none (.mv (.tmp 6)) <|
    .rd (some 56) none none (.mv (.tmp 9)) <|
    .rd (some 57) none none (.bin .add (.tmp 55) (.tmp 56)) <|
    .rd (some 58) none none (.bin .neq (.tmp 54) (.tmp 57)) <|
    .rd (some 59) none none (.mv (.tmp 58)) <|
    .rd (some 60) (some (59, false)) none (.mv (.tmp 3)) <|
    .rd (some 61) (some (59, false)) none (.fa 1 (.tmp 5)) <|
    .rd (some 62) (some (59, false)) none (.ld (some 2) (.tmp 61)) <|
    .ef (some 63) (some (59, false)) 0 (.cl 13 [(.tmp 60), (.tmp 62)]) <|
    .rd (some 64) (some (59, false)) none (.len (.tmp 63)) <|
    .rd (some 65) (some (59, false)) none (.mv (.tmp 7)) <|
    .rd (some 66) (some (59, false)) none (.mv (.tmp 9)) <|
    .rd (some 67) (some (59, false)) none (.bin .add (.tmp 65) (.tmp 66)) <|
    .rd (some 68) (some (59, false)) none (.bin .neq (.tmp 64) (.tmp 67)) <|
    .rd (some 69) none none (.pick (.tmp 59) (.const (.bool true)) (.tmp 68)) <|
    .done) <|
  .cond (.tmp 69) (.seq (.reg <| .rd (some 2) none none (.mv (.const (.bool false))) <|
    .done) <|
  .ret) <|
  .skip) <|
  .seq (.reg <| .rd (some 71) none none (.bin .eql (.tmp 31) (.const (.int .i64 1))) <|
    .rd (some 70) none none (.mv (.tmp 71)) <|
    .done) <|
  .cond (.tmp 70) (.seq (.reg <| .rd (some 72) none none (.mv (.tmp 3)) <|
    .rd (some 73) none none (.fa 1 (.tmp 5)) <|
    .rd (some 74) none none (.ld (some 2) (.tmp 73)) <|
    .ef (some 75) none 0 (.cl 14 [(.tmp 72), (.tmp 74)]) <|
    .rd (some 76) none none (.len (.tmp 75)) <|
    .rd (some 77) none none (.mv (.tmp 7)) <|
    .rd (some 78) none none (.bin .neq (.tmp 76) (.tmp 77)) <|
    .rd (some 79) none none (.mv (.tmp 78)) <|
    .rd (some 80) (some (79, false)) none (.mv (.tmp 3)) <|
    .ef (some 81) (some (79, false)) 0 (.cl 11 [(.tmp 80)]) <|
    .rd (some 82) (some (79, false)) none (.len (.tmp 81)) <|
    .rd (some 83) (some (79, false)) none (.mv (.tmp 6)) <|
    .rd (some 84) (some (79, false)) none (.mv (.tmp 7)) <|
    .rd (some 85) (some (79, false)) none (.bin .sub (.tmp 83) (.tmp 84)) <|
    .rd (some 86) (some (79, false)) none (.bin .neq (.tmp 82) (.tmp 85)) <|
    .rd (some 87) none none (.pick (.tmp 79) (.const (.bool true)) (.tmp 86)) <|
    .rd (some 88) none none (.mv (.tmp 87)) <|
    .rd (some 89) (some (88, false)) none (.mv (.tmp 3)) <|
    .rd (some 90) (some (88, false)) none (.fa 1 (.tmp 5)) <|
    .rd (some 91) (some (88, false)) none (.ld (some 2) (.tmp 90)) <|
    .ef (some 92) (some (88, false)) 0 (.cl 13 [(.tmp 89), (.tmp 91)]) <|
    .rd (some 93) (some (88, false)) none (.len (.tmp 92)) <|
    .rd (some 94) (some (88, false)) none (.bin .neq (.tmp 93) (.const (.int .i64 0))) <|
    .rd (some 95) none none (.pick (.tmp 88) (.const (.bool true)) (.tmp 94)) <|
    .done) <|
  .cond (.tmp 95) (.seq (.reg <| .rd (some 2) none none (.mv (.const (.bool false))) <|
    .done) <|
  .ret) <|
  .skip) <|
  .skip) <|
  .reg <| .rd (some 96) none none (.bin .add (.tmp 15) (.const (.int .i64 1))) <|
    .rd (some 15) none none (.mv (.tmp 96)) <|
    .done
def F4 : MF := ⟨97, [(2, none)],
  .seq (.reg <| .rd (some 2) none none (.mv (.const (.bool false))) <|
    .done) <|
  .seq (.seq (.reg <| .ef (some 10) none 0 (.cl 8 []) <|
    .rd (some 11) none none (.un .not (.tmp 10)) <|
    .done) <|
  .cond (.tmp 11) (.seq (.reg <| .rd (some 2) none none (.mv (.const (.bool false))) <|
    .done) <|
  .ret) <|
  .skip) <|
  .seq (.reg <| .ef (some 12) none 0 (.cl 9 []) <|
    .rd (some 3) none none (.mv (.tmp 12)) <|
    .done) <|
  .seq (.seq (.reg <| .rd (some 13) none none (.mv (.tmp 0)) <|
    .rd (some 14) none none (.len (.tmp 13)) <|
    .rd (some 15) none none (.mv (.const (.int .i64 0))) <|
    .done) <|
  .block 0 <|
  .loop F4b0) <|
  .seq (.reg <| .rd (some 2) none none (.mv (.const (.bool true))) <|
    .done) <|
  .ret⟩
def F4.k : List Nat := [0, 2, 3, 4, 5, 6, 7, 8, 9, 11, 13, 14, 15, 16, 21, 31, 32, 48, 69, 70, 95]
theorem F4.ok : trF Try.prog 4 = some F4 := by kernel_rfl

/- dovecote.dovecotelaw10.LatchHolds -/
abbrev F5b0 : MC :=
  .seq (.reg <| .rd (some 85) none none (.bin .lss (.tmp 84) (.tmp 83)) <|
    .done) <|
  .seq (.cond (.tmp 85) (.skip) <|
  .exit 3) <|
  .seq (.block 4 <|
  .seq (.reg <| .rd (some 86) none none (.ia 3 (.tmp 82) (.tmp 84)) <|
    .rd (some 87) none none (.ld (some 3) (.tmp 86)) <|
    .ef (some 11) none 0 (.al 39 [(.string ⟨#[]⟩), (.string ⟨#[]⟩), (.bool false)]) <|
    .ef none none 0 (.st 3 (.tmp 11) (.tmp 87)) <|
    .done) <|
  .seq (.reg <| .rd (some 89) none none (.mv (.tmp 5)) <|
    .rd (some 90) none none (.fa 0 (.tmp 11)) <|
    .rd (some 91) none none (.ld none (.tmp 90)) <|
    .ef (some 92) none 0 (.cl 17 [(.tmp 89), (.tmp 91)]) <|
    .rd (some 88) none none (.mv (.tmp 92)) <|
    .rd (some 93) none none (.ext (.tmp 88) 0) <|
    .rd (some 94) none none (.ext (.tmp 88) 1) <|
    .ef (some 12) none 0 (.al 41 [(.int .u32 0), (.int .u32 0), (.int .u64 0), (.int .u32 0), (.int .u64 0), (.int .u32 0), (.string ⟨#[]⟩), (.string ⟨#[]⟩), (.string ⟨#[]⟩), (.bool false)]) <|
    .ef none none 0 (.st 10 (.tmp 12) (.tmp 93)) <|
    .rd (some 13) none none (.mv (.tmp 94)) <|
    .done) <|
  .seq (.seq (.reg <| .rd (some 95) none none (.mv (.tmp 13)) <|
    .rd (some 96) none none (.un .not (.tmp 95)) <|
    .rd (some 97) none none (.mv (.tmp 96)) <|
    .rd (some 98) (some (97, false)) none (.fa 0 (.tmp 12)) <|
    .rd (some 99) (some (97, false)) none (.ld (some 2) (.tmp 98)) <|
    .rd (some 100) (some (97, false)) none (.ld (some 2) (.tmp 6)) <|
    .rd (some 101) (some (97, false)) none (.eqs true [(.int .u32), (.int .u32)] (.tmp 99) (.tmp 100)) <|
    .rd (some 102) none none (.pick (.tmp 97) (.const (.bool true)) (.tmp 101)) <|
    .rd (some 103) none none (.mv (.tmp 102)) <|
    .rd (some 104) (some (103, false)) none (.fa 7 (.tmp 12)) <|
    .rd (some 105) (some (103, false)) none (.ld (some 3) (.tmp 104)) <|
    .rd (some 106) (some (103, false)) none (.ld (some 3) (.tmp 11)) <|
    .rd (some 107) (some (103, false)) none (.eqs true [.str, .str, .bool] (.tmp 105) (.tmp 106)) <|
    .rd (some 108) none none (.pick (.tmp 103) (.const (.bool true)) (.tmp 107)) <|
    .rd (some 109) none none (.mv (.tmp 108)) <|
    .rd (some 110) (some (109, false)) none (.fa 2 (.tmp 12)) <|
    .rd (some 111) (some (109, false)) none (.ld (some 2) (.tmp 110)) <|
    .rd (some 112) (some (109, false)) none (.bld [(.int .u64 0), (.int .u32 0)] [(0, 1, (.const (.int .u64 1)))]) <|
    .rd (some 113) (some (109, false)) none (.eqs true [(.int .u64), (.int .u32)] (.tmp 111) (.tmp 112)) <|
    .rd (some 114) none none (.pick (.tmp 109) (.const (.bool true)) (.tmp 113)) <|
    .rd (some 115) none none (.mv (.tmp 114)) <|
    .rd (some 116) (some (115, false)) none (.fa 6 (.tmp 12)) <|
    .rd (some 117) (some (115, false)) none (.ld none (.tmp 116)) <|
    .rd (some 118) (some (115, false)) none (.bin .neq (.tmp 117) (.const (.string ⟨#[111, 119, 110]⟩))) <|
    .rd (some 119) none none (.pick (.tmp 115) (.const (.bool true)) (.tmp 118)) <|
    .rd (some 120) none none (.mv (.tmp 119)) <|
    .rd (some 121) (some (120, false)) none (.fa 4 (.tmp 12)) <|
    .rd (some 122) (some (120, false)) none (.fa 0 (.tmp 121)) <|
    .rd (some 123) (some (120, false)) none (.ld none (.tmp 122)) <|
    .rd (some 124) (some (120, false)) none (.fa 0 (.tmp 7)) <|
    .rd (some 125) (some (120, false)) none (.ld none (.tmp 124)) <|
    .rd (some 126) (some (120, false)) none (.bin .lss (.tmp 123) (.tmp 125)) <|
    .rd (some 127) none none (.pick (.tmp 120) (.const (.bool true)) (.tmp 126)) <|
    .rd (some 128) none none (.mv (.tmp 127)) <|
    .rd (some 129) (some (128, false)) none (.fa 4 (.tmp 12)) <|
    .rd (some 130) (some (128, false)) none (.fa 0 (.tmp 129)) <|
    .rd (some 131) (some (128, false)) none (.ld none (.tmp 130)) <|
    .rd (some 132) (some (128, false)) none (.fa 0 (.tmp 7)) <|
    .rd (some 133) (some (128, false)) none (.ld none (.tmp 132)) <|
    .rd (some 134) (some (128, false)) none (.bin .eql (.tmp 131) (.tmp 133)) <|
    .rd (some 135) (some (128, false)) none (.mv (.tmp 134)) <|
    .rd (some 136) (some (135, true)) none (.fa 4 (.tmp 12)) <|
    .rd (some 137) (some (135, true)) none (.fa 1 (.tmp 136)) <|
    .rd (some 138) (some (135, true)) none (.ld none (.tmp 137)) <|
    .rd (some 139) (some (135, true)) none (.fa 1 (.tmp 7)) <|
    .rd (some 140) (some (135, true)) none (.ld none (.tmp 139)) <|
    .rd (some 141) (some (135, true)) none (.bin .lss (.tmp 138) (.tmp 140)) <|
    .rd (some 142) (some (128, false)) none (.pick (.tmp 135) (.tmp 141) (.const (.bool false))) <|
    .rd (some 143) none none (.pick (.tmp 128) (.const (.bool true)) (.tmp 142)) <|
    .done) <|
  .cond (.tmp 143) (.seq (.reg <| .rd (some 4) none none (.mv (.const (.bool false))) <|
    .done) <|
  .ret) <|
  .skip) <|
  .seq (.reg <| .rd (some 144) none (some 0) (.ld (some 3) (.tmp 11)) <|
    .rd (some 145) none none (.mv (.tmp 0)) <|
    .rd (some 146) none none (.mv (.tmp 0)) <|
    .rd (some 147) none none (.len (.tmp 146)) <|
    .rd (some 148) none none (.bin .sub (.tmp 147) (.const (.int .i64 1))) <|
    .rd (some 149) none none (.ia 3 (.tmp 145) (.tmp 148)) <|
    .rd (some 150) none (some 0) (.ld (some 3) (.tmp 149)) <|
    .rd (some 151) none none (.eqs false [.str, .str, .bool] (.tmp 144) (.tmp 150)) <|
    .done) <|
  .cond (.tmp 151) (.reg <| .rd (some 152) none none (.fa 4 (.tmp 12)) <|
    .rd (some 153) none none (.ld (some 2) (.tmp 152)) <|
    .ef none none 0 (.st 2 (.tmp 7) (.tmp 153)) <|
    .done) <|
  .skip) <|
  .reg <| .rd (some 154) none none (.bin .add (.tmp 84) (.const (.int .i64 1))) <|
    .rd (some 84) none none (.mv (.tmp 154)) <|
    .done
abbrev F5b1 : MC :=
  .seq (.reg <| .rd (some 37) none none (.bin .lss (.tmp 36) (.tmp 35)) <|
    .done) <|
  .seq (.cond (.tmp 37) (.skip) <|
  .exit 0) <|
  .seq (.block 1 <|
  .seq (.reg <| .rd (some 38) none none (.mv (.tmp 36)) <|
    .rd (some 39) none none (.ia 12 (.tmp 34) (.tmp 36)) <|
    .rd (some 40) none none (.ld (some 12) (.tmp 39)) <|
    .ef (some 9) none 0 (.al 32 [(.int .i64 0), (.int .u32 0), (.int .u32 0), (.int .u64 0), (.int .u32 0), (.int .u64 0), (.int .u32 0), (.string ⟨#[]⟩), (.slice none 0 0), (.string ⟨#[]⟩), (.string ⟨#[]⟩), (.slice none 0 0)]) <|
    .rd (some 8) none none (.mv (.tmp 38)) <|
    .ef none none 0 (.st 12 (.tmp 9) (.tmp 40)) <|
    .done) <|
  .seq (.seq (.reg <| .rd (some 41) none none (.mv (.tmp 8)) <|
    .rd (some 42) none none (.bin .eql (.tmp 41) (.const (.int .i64 100))) <|
    .done) <|
  .cond (.tmp 42) (.exit 0) <|
  .skip) <|
  .seq (.block 2 <|
  .seq (.reg <| .rd (some 44) none none (.fa 0 (.tmp 9)) <|
    .rd (some 45) none none (.ld none (.tmp 44)) <|
    .rd (some 46) none none (.bin .eql (.tmp 45) (.const (.int .i64 2))) <|
    .rd (some 43) none none (.mv (.tmp 46)) <|
    .done) <|
  .cond (.tmp 43) (.reg <| .rd (some 47) none none (.mv (.tmp 5)) <|
    .rd (some 48) none none (.fa 1 (.tmp 9)) <|
    .rd (some 49) none none (.ld (some 2) (.tmp 48)) <|
    .rd (some 50) none none (.fa 5 (.tmp 9)) <|
    .rd (some 51) none none (.ld (some 2) (.tmp 50)) <|
    .ef (some 52) none 0 (.cl 16 [(.tmp 47), (.tmp 49), (.tmp 51)]) <|
    .done) <|
  .seq (.reg <| .rd (some 54) none none (.fa 1 (.tmp 9)) <|
    .rd (some 55) none none (.ld (some 2) (.tmp 54)) <|
    .rd (some 56) none none (.ld (some 2) (.tmp 6)) <|
    .rd (some 57) none none (.eqs false [(.int .u32), (.int .u32)] (.tmp 55) (.tmp 56)) <|
    .rd (some 53) none none (.mv (.tmp 57)) <|
    .done) <|
  .cond (.tmp 53) (.skip) <|
  .seq (.reg <| .rd (some 59) none none (.fa 0 (.tmp 9)) <|
    .rd (some 60) none none (.ld none (.tmp 59)) <|
    .rd (some 61) none none (.bin .eql (.tmp 60) (.const (.int .i64 0))) <|
    .rd (some 58) none none (.mv (.tmp 61)) <|
    .done) <|
  .cond (.tmp 58) (.reg <| .rd (some 62) none none (.mv (.tmp 5)) <|
    .rd (some 63) none none (.fa 1 (.tmp 9)) <|
    .rd (some 64) none none (.ld (some 2) (.tmp 63)) <|
    .rd (some 65) none none (.fa 3 (.tmp 9)) <|
    .rd (some 66) none none (.ld (some 2) (.tmp 65)) <|
    .rd (some 67) none none (.fa 5 (.tmp 9)) <|
    .rd (some 68) none none (.ld (some 2) (.tmp 67)) <|
    .rd (some 69) none none (.fa 7 (.tmp 9)) <|
    .rd (some 70) none none (.ld none (.tmp 69)) <|
    .rd (some 71) none none (.fa 8 (.tmp 9)) <|
    .rd (some 72) none none (.ld none (.tmp 71)) <|
    .ef (some 73) none 0 (.cl 10 [(.tmp 62), (.tmp 64), (.tmp 66), (.tmp 68), (.tmp 70), (.tmp 72)]) <|
    .done) <|
  .seq (.reg <| .rd (some 75) none none (.fa 0 (.tmp 9)) <|
    .rd (some 76) none none (.ld none (.tmp 75)) <|
    .rd (some 77) none none (.bin .eql (.tmp 76) (.const (.int .i64 1))) <|
    .rd (some 74) none none (.mv (.tmp 77)) <|
    .done) <|
  .cond (.tmp 74) (.reg <| .rd (some 78) none none (.mv (.tmp 5)) <|
    .rd (some 79) none none (.fa 1 (.tmp 9)) <|
    .rd (some 80) none none (.ld (some 2) (.tmp 79)) <|
    .ef (some 81) none 0 (.cl 14 [(.tmp 78), (.tmp 80)]) <|
    .done) <|
  .skip) <|
  .seq (.reg <| .rd (some 82) none none (.mv (.tmp 0)) <|
    .rd (some 83) none none (.len (.tmp 82)) <|
    .rd (some 84) none none (.mv (.const (.int .i64 0))) <|
    .done) <|
  .block 3 <|
  .loop F5b0) <|
  .reg <| .rd (some 155) none none (.bin .add (.tmp 36) (.const (.int .i64 1))) <|
    .rd (some 36) none none (.mv (.tmp 155)) <|
    .done
abbrev F5b2 : MC :=
  .seq (.reg <| .rd (some 174) none none (.bin .lss (.tmp 173) (.tmp 172)) <|
    .done) <|
  .seq (.cond (.tmp 174) (.skip) <|
  .exit 5) <|
  .seq (.block 6 <|
  .seq (.reg <| .rd (some 175) none none (.ia 3 (.tmp 171) (.tmp 173)) <|
    .rd (some 176) none none (.ld (some 3) (.tmp 175)) <|
    .ef (some 16) none 0 (.al 39 [(.string ⟨#[]⟩), (.string ⟨#[]⟩), (.bool false)]) <|
    .ef none none 0 (.st 3 (.tmp 16) (.tmp 176)) <|
    .done) <|
  .seq (.reg <| .rd (some 178) none none (.mv (.tmp 5)) <|
    .rd (some 179) none none (.fa 0 (.tmp 16)) <|
    .rd (some 180) none none (.ld none (.tmp 179)) <|
    .ef (some 181) none 0 (.cl 17 [(.tmp 178), (.tmp 180)]) <|
    .rd (some 177) none none (.mv (.tmp 181)) <|
    .rd (some 182) none none (.ext (.tmp 177) 0) <|
    .rd (some 183) none none (.ext (.tmp 177) 1) <|
    .ef (some 17) none 0 (.al 41 [(.int .u32 0), (.int .u32 0), (.int .u64 0), (.int .u32 0), (.int .u64 0), (.int .u32 0), (.string ⟨#[]⟩), (.string ⟨#[]⟩), (.string ⟨#[]⟩), (.bool false)]) <|
    .ef none none 0 (.st 10 (.tmp 17) (.tmp 182)) <|
    .rd (some 18) none none (.mv (.tmp 183)) <|
    .done) <|
  .seq (.reg <| .rd (some 184) none none (.mv (.tmp 18)) <|
    .done) <|
  .cond (.tmp 184) (.seq (.reg <| .rd (some 4) none none (.mv (.const (.bool false))) <|
    .done) <|
  .ret) <|
  .skip) <|
  .reg <| .rd (some 185) none none (.bin .add (.tmp 173) (.const (.int .i64 1))) <|
    .rd (some 173) none none (.mv (.tmp 185)) <|
    .done
def F5 : MF := ⟨186, [(4, none)],
  .seq (.reg <| .rd (some 4) none none (.mv (.const (.bool false))) <|
    .done) <|
  .seq (.seq (.reg <| .ef (some 19) none 0 (.cl 8 []) <|
    .rd (some 20) none none (.un .not (.tmp 19)) <|
    .done) <|
  .cond (.tmp 20) (.seq (.reg <| .rd (some 4) none none (.mv (.const (.bool false))) <|
    .done) <|
  .ret) <|
  .skip) <|
  .seq (.reg <| .ef (some 21) none 0 (.cl 9 []) <|
    .rd (some 5) none none (.mv (.tmp 21)) <|
    .done) <|
  .seq (.reg <| .rd (some 22) none none (.bld [(.int .u32 0), (.int .u32 0)] [(0, 1, (.const (.int .u32 77))), (1, 1, (.const (.int .u32 7)))]) <|
    .ef (some 6) none 0 (.al 25 [(.int .u32 0), (.int .u32 0)]) <|
    .ef none none 0 (.st 2 (.tmp 6) (.tmp 22)) <|
    .done) <|
  .seq (.seq (.reg <| .rd (some 23) none none (.mv (.tmp 5)) <|
    .rd (some 24) none none (.ld (some 2) (.tmp 6)) <|
    .rd (some 25) none none (.bld [(.int .u64 0), (.int .u32 0)] [(0, 1, (.const (.int .u64 1)))]) <|
    .rd (some 26) none none (.bld [(.int .u64 0), (.int .u32 0)] [(0, 1, (.const (.int .u64 2)))]) <|
    .rd (some 27) none none (.mv (.tmp 0)) <|
    .ef (some 28) none 0 (.cl 10 [(.tmp 23), (.tmp 24), (.tmp 25), (.tmp 26), (.const (.string ⟨#[111, 119, 110]⟩)), (.tmp 27)]) <|
    .rd (some 29) none none (.bin .neq (.tmp 28) (.const (.int .i64 0))) <|
    .done) <|
  .cond (.tmp 29) (.seq (.reg <| .rd (some 30) none none (.mv (.tmp 0)) <|
    .ef (some 31) none 0 (.cl 15 [(.tmp 30)]) <|
    .rd (some 32) none none (.un .not (.tmp 31)) <|
    .rd (some 4) none none (.mv (.tmp 32)) <|
    .done) <|
  .ret) <|
  .skip) <|
  .seq (.reg <| .rd (some 33) none none (.bld [(.int .u64 0), (.int .u32 0)] [(0, 1, (.const (.int .u64 2)))]) <|
    .ef (some 7) none 0 (.al 28 [(.int .u64 0), (.int .u32 0)]) <|
    .ef none none 0 (.st 2 (.tmp 7) (.tmp 33)) <|
    .done) <|
  .seq (.seq (.reg <| .rd (some 34) none none (.mv (.tmp 1)) <|
    .rd (some 35) none none (.len (.tmp 34)) <|
    .rd (some 36) none none (.mv (.const (.int .i64 0))) <|
    .done) <|
  .block 0 <|
  .loop F5b1) <|
  .seq (.reg <| .rd (some 156) none none (.mv (.tmp 5)) <|
    .rd (some 157) none none (.ld (some 2) (.tmp 6)) <|
    .ef (some 158) none 0 (.cl 14 [(.tmp 156), (.tmp 157)]) <|
    .rd (some 14) none none (.mv (.tmp 158)) <|
    .done) <|
  .seq (.seq (.reg <| .rd (some 159) none none (.mv (.tmp 14)) <|
    .rd (some 160) none none (.len (.tmp 159)) <|
    .rd (some 161) none none (.mv (.tmp 0)) <|
    .rd (some 162) none none (.len (.tmp 161)) <|
    .rd (some 163) none none (.bin .neq (.tmp 160) (.tmp 162)) <|
    .rd (some 164) none none (.mv (.tmp 163)) <|
    .rd (some 165) (some (164, false)) none (.mv (.tmp 5)) <|
    .rd (some 166) (some (164, false)) none (.ld (some 2) (.tmp 6)) <|
    .ef (some 167) (some (164, false)) 0 (.cl 13 [(.tmp 165), (.tmp 166)]) <|
    .rd (some 168) (some (164, false)) none (.len (.tmp 167)) <|
    .rd (some 169) (some (164, false)) none (.bin .neq (.tmp 168) (.const (.int .i64 0))) <|
    .rd (some 170) none none (.pick (.tmp 164) (.const (.bool true)) (.tmp 169)) <|
    .done) <|
  .cond (.tmp 170) (.seq (.reg <| .rd (some 4) none none (.mv (.const (.bool false))) <|
    .done) <|
  .ret) <|
  .skip) <|
  .seq (.seq (.reg <| .rd (some 171) none none (.mv (.tmp 0)) <|
    .rd (some 172) none none (.len (.tmp 171)) <|
    .rd (some 173) none none (.mv (.const (.int .i64 0))) <|
    .done) <|
  .block 5 <|
  .loop F5b2) <|
  .seq (.reg <| .rd (some 4) none none (.mv (.const (.bool true))) <|
    .done) <|
  .ret⟩
def F5.k : List Nat := [0, 1, 4, 5, 6, 7, 8, 9, 11, 12, 13, 14, 16, 18, 20, 29, 34, 35, 36, 37, 42, 43, 53, 58, 74, 82, 83, 84, 85, 143, 151, 170, 171, 172, 173, 174, 184]
theorem F5.ok : trF Try.prog 5 = some F5 := by kernel_rfl

/- dovecote.dovecotelaw10.LatchRuns -/
abbrev F6b0 : MC :=
  .seq (.reg <| .rd (some 70) none none (.bin .lss (.tmp 69) (.tmp 68)) <|
    .done) <|
  .seq (.cond (.tmp 70) (.skip) <|
  .exit 3) <|
  .seq (.block 4 <|
  .seq (.reg <| .rd (some 71) none none (.mv (.tmp 69)) <|
    .rd (some 8) none none (.mv (.tmp 71)) <|
    .done) <|
  .seq (.seq (.reg <| .rd (some 72) none none (.mv (.tmp 7)) <|
    .rd (some 73) none none (.mv (.tmp 8)) <|
    .rd (some 74) none none (.ia 3 (.tmp 72) (.tmp 73)) <|
    .rd (some 75) none (some 0) (.ld (some 3) (.tmp 74)) <|
    .rd (some 76) none none (.fa 8 (.tmp 6)) <|
    .rd (some 77) none (some 0) (.ld none (.tmp 76)) <|
    .rd (some 78) none none (.mv (.tmp 8)) <|
    .rd (some 79) none none (.ia 3 (.tmp 77) (.tmp 78)) <|
    .rd (some 80) none (some 0) (.ld (some 3) (.tmp 79)) <|
    .rd (some 81) none none (.eqs true [.str, .str, .bool] (.tmp 75) (.tmp 80)) <|
    .done) <|
  .cond (.tmp 81) (.seq (.reg <| .rd (some 2) none none (.mv (.const (.bool false))) <|
    .done) <|
  .ret) <|
  .skip) <|
  .reg <| .rd (some 82) none none (.mv (.tmp 7)) <|
    .rd (some 83) none none (.mv (.tmp 8)) <|
    .rd (some 84) none none (.ia 3 (.tmp 82) (.tmp 83)) <|
    .rd (some 85) none none (.fa 0 (.tmp 84)) <|
    .ef none none 0 (.st 1 (.tmp 85) (.const (.string ⟨#[111, 116, 104, 101, 114]⟩))) <|
    .done) <|
  .reg <| .rd (some 86) none none (.bin .add (.tmp 69) (.const (.int .i64 1))) <|
    .rd (some 69) none none (.mv (.tmp 86)) <|
    .done
abbrev F6b1 : MC :=
  .seq (.reg <| .rd (some 25) none none (.bin .lss (.tmp 24) (.tmp 23)) <|
    .done) <|
  .seq (.cond (.tmp 25) (.skip) <|
  .exit 0) <|
  .seq (.block 1 <|
  .seq (.reg <| .rd (some 26) none none (.mv (.tmp 24)) <|
    .rd (some 27) none none (.ia 12 (.tmp 22) (.tmp 24)) <|
    .rd (some 28) none none (.ld (some 12) (.tmp 27)) <|
    .ef (some 6) none 0 (.al 32 [(.int .i64 0), (.int .u32 0), (.int .u32 0), (.int .u64 0), (.int .u32 0), (.int .u64 0), (.int .u32 0), (.string ⟨#[]⟩), (.slice none 0 0), (.string ⟨#[]⟩), (.string ⟨#[]⟩), (.slice none 0 0)]) <|
    .rd (some 5) none none (.mv (.tmp 26)) <|
    .ef none none 0 (.st 12 (.tmp 6) (.tmp 28)) <|
    .done) <|
  .seq (.seq (.reg <| .rd (some 29) none none (.mv (.tmp 5)) <|
    .rd (some 30) none none (.bin .eql (.tmp 29) (.const (.int .i64 120))) <|
    .done) <|
  .cond (.tmp 30) (.exit 0) <|
  .skip) <|
  .seq (.seq (.reg <| .rd (some 31) none none (.fa 8 (.tmp 6)) <|
    .rd (some 32) none none (.ld none (.tmp 31)) <|
    .rd (some 33) none none (.len (.tmp 32)) <|
    .rd (some 34) none none (.bin .gtr (.tmp 33) (.const (.int .i64 200))) <|
    .done) <|
  .cond (.tmp 34) (.seq (.reg <| .rd (some 2) none none (.mv (.const (.bool true))) <|
    .done) <|
  .ret) <|
  .skip) <|
  .seq (.seq (.reg <| .rd (some 35) none none (.fa 0 (.tmp 6)) <|
    .rd (some 36) none none (.ld none (.tmp 35)) <|
    .done) <|
  .block 2 <|
  .seq (.reg <| .rd (some 38) none none (.bin .eql (.tmp 36) (.const (.int .i64 0))) <|
    .rd (some 37) none none (.mv (.tmp 38)) <|
    .done) <|
  .cond (.tmp 37) (.seq (.reg <| .ef (some 39) none 0 (.raw ⟨none, (.buildSlice 29 0 #[]), 29, "", #[], none⟩) <|
    .rd (some 40) none none (.fa 8 (.tmp 6)) <|
    .rd (some 41) none none (.ld none (.tmp 40)) <|
    .ef (some 42) none 0 (.raw ⟨none, (.call ⟨(.builtin .append), #[(.tmp 39), (.tmp 41)], #[29, 29]⟩), 29, "", #[], none⟩) <|
    .rd (some 7) none none (.mv (.tmp 42)) <|
    .done) <|
  .seq (.seq (.reg <| .rd (some 43) none none (.mv (.tmp 3)) <|
    .rd (some 44) none none (.fa 1 (.tmp 6)) <|
    .rd (some 45) none (some 4195328) (.ld (some 2) (.tmp 44)) <|
    .rd (some 46) none none (.fa 3 (.tmp 6)) <|
    .rd (some 47) none (some 4195328) (.ld (some 2) (.tmp 46)) <|
    .rd (some 48) none none (.fa 5 (.tmp 6)) <|
    .rd (some 49) none (some 4195328) (.ld (some 2) (.tmp 48)) <|
    .rd (some 50) none none (.fa 7 (.tmp 6)) <|
    .rd (some 51) none (some 4195328) (.ld none (.tmp 50)) <|
    .rd (some 52) none none (.mv (.tmp 7)) <|
    .rd (some 54) none none (.mv (.tmp 4)) <|
    .rd (some 55) none none (.fa 1 (.tmp 6)) <|
    .rd (some 56) none (some 4194304) (.ld (some 2) (.tmp 55)) <|
    .rd (some 57) none none (.fa 3 (.tmp 6)) <|
    .rd (some 58) none (some 4194304) (.ld (some 2) (.tmp 57)) <|
    .rd (some 59) none none (.fa 5 (.tmp 6)) <|
    .rd (some 60) none (some 4194304) (.ld (some 2) (.tmp 59)) <|
    .rd (some 61) none none (.fa 7 (.tmp 6)) <|
    .rd (some 62) none (some 4194304) (.ld none (.tmp 61)) <|
    .rd (some 63) none none (.fa 8 (.tmp 6)) <|
    .rd (some 64) none (some 4194304) (.ld none (.tmp 63)) <|
    .ef (some 53) none 10 (.cl 10 [(.tmp 43), (.tmp 45), (.tmp 47), (.tmp 49), (.tmp 51), (.tmp 52)]) <|
    .ef (some 65) none 22 (.cl 18 [(.tmp 54), (.tmp 56), (.tmp 58), (.tmp 60), (.tmp 62), (.tmp 64)]) <|
    .rd (some 66) none none (.bin .neq (.tmp 53) (.tmp 65)) <|
    .done) <|
  .cond (.tmp 66) (.seq (.reg <| .rd (some 2) none none (.mv (.const (.bool false))) <|
    .done) <|
  .ret) <|
  .skip) <|
  .seq (.reg <| .rd (some 67) none none (.mv (.tmp 7)) <|
    .rd (some 68) none none (.len (.tmp 67)) <|
    .rd (some 69) none none (.mv (.const (.int .i64 0))) <|
    .done) <|
  .block 3 <|
  .loop F6b0) <|
  .seq (.reg <| .rd (some 88) none none (.bin .eql (.tmp 36) (.const (.int .i64 1))) <|
    .rd (some 87) none none (.mv (.tmp 88)) <|
    .done) <|
  .cond (.tmp 87) (.seq (.reg <| .rd (some 89) none none (.mv (.tmp 3)) <|
    .rd (some 90) none none (.fa 1 (.tmp 6)) <|
    .rd (some 91) none (some 392) (.ld (some 2) (.tmp 90)) <|
    .rd (some 93) none none (.mv (.tmp 4)) <|
    .rd (some 94) none none (.fa 1 (.tmp 6)) <|
    .rd (some 95) none (some 384) (.ld (some 2) (.tmp 94)) <|
    .ef (some 92) none 3 (.cl 14 [(.tmp 89), (.tmp 91)]) <|
    .ef (some 96) none 7 (.cl 20 [(.tmp 93), (.tmp 95)]) <|
    .ef (some 97) none 8 (.cl 19 [(.tmp 92), (.tmp 96)]) <|
    .rd (some 98) none none (.un .not (.tmp 97)) <|
    .done) <|
  .cond (.tmp 98) (.seq (.reg <| .rd (some 2) none none (.mv (.const (.bool false))) <|
    .done) <|
  .ret) <|
  .skip) <|
  .seq (.reg <| .rd (some 100) none none (.bin .eql (.tmp 36) (.const (.int .i64 2))) <|
    .rd (some 99) none none (.mv (.tmp 100)) <|
    .done) <|
  .cond (.tmp 99) (.seq (.reg <| .rd (some 101) none none (.mv (.tmp 3)) <|
    .rd (some 102) none none (.fa 1 (.tmp 6)) <|
    .rd (some 103) none (some 2080) (.ld (some 2) (.tmp 102)) <|
    .rd (some 104) none none (.fa 5 (.tmp 6)) <|
    .rd (some 105) none (some 2080) (.ld (some 2) (.tmp 104)) <|
    .rd (some 107) none none (.mv (.tmp 4)) <|
    .rd (some 108) none none (.fa 1 (.tmp 6)) <|
    .rd (some 109) none (some 2048) (.ld (some 2) (.tmp 108)) <|
    .rd (some 110) none none (.fa 5 (.tmp 6)) <|
    .rd (some 111) none (some 2048) (.ld (some 2) (.tmp 110)) <|
    .ef (some 106) none 5 (.cl 16 [(.tmp 101), (.tmp 103), (.tmp 105)]) <|
    .ef (some 112) none 11 (.cl 21 [(.tmp 107), (.tmp 109), (.tmp 111)]) <|
    .rd (some 113) none none (.eqb true (.tmp 106) (.tmp 112)) <|
    .done) <|
  .cond (.tmp 113) (.seq (.reg <| .rd (some 2) none none (.mv (.const (.bool false))) <|
    .done) <|
  .ret) <|
  .skip) <|
  .skip) <|
  .seq (.reg <| .rd (some 115) none none (.mv (.tmp 3)) <|
    .rd (some 116) none none (.fa 9 (.tmp 6)) <|
    .rd (some 117) none none (.ld none (.tmp 116)) <|
    .rd (some 118) none none (.fa 10 (.tmp 6)) <|
    .rd (some 119) none none (.ld none (.tmp 118)) <|
    .rd (some 120) none none (.fa 5 (.tmp 6)) <|
    .rd (some 121) none none (.ld (some 2) (.tmp 120)) <|
    .rd (some 122) none none (.fa 11 (.tmp 6)) <|
    .rd (some 123) none none (.ld none (.tmp 122)) <|
    .ef (some 124) none 0 (.cl 12 [(.tmp 115), (.tmp 117), (.tmp 119), (.tmp 121), (.tmp 123)]) <|
    .rd (some 114) none none (.mv (.tmp 124)) <|
    .rd (some 125) none none (.ext (.tmp 114) 0) <|
    .rd (some 126) none none (.ext (.tmp 114) 1) <|
    .ef (some 9) none 0 (.al 41 [(.int .u32 0), (.int .u32 0), (.int .u64 0), (.int .u32 0), (.int .u64 0), (.int .u32 0), (.string ⟨#[]⟩), (.string ⟨#[]⟩), (.string ⟨#[]⟩), (.bool false)]) <|
    .ef none none 0 (.st 10 (.tmp 9) (.tmp 125)) <|
    .rd (some 10) none none (.mv (.tmp 126)) <|
    .done) <|
  .seq (.reg <| .rd (some 128) none none (.mv (.tmp 4)) <|
    .rd (some 129) none none (.fa 9 (.tmp 6)) <|
    .rd (some 130) none none (.ld none (.tmp 129)) <|
    .rd (some 131) none none (.fa 10 (.tmp 6)) <|
    .rd (some 132) none none (.ld none (.tmp 131)) <|
    .rd (some 133) none none (.fa 5 (.tmp 6)) <|
    .rd (some 134) none none (.ld (some 2) (.tmp 133)) <|
    .rd (some 135) none none (.fa 11 (.tmp 6)) <|
    .rd (some 136) none none (.ld none (.tmp 135)) <|
    .ef (some 137) none 0 (.cl 22 [(.tmp 128), (.tmp 130), (.tmp 132), (.tmp 134), (.tmp 136)]) <|
    .rd (some 127) none none (.mv (.tmp 137)) <|
    .rd (some 138) none none (.ext (.tmp 127) 0) <|
    .rd (some 139) none none (.ext (.tmp 127) 1) <|
    .ef (some 11) none 0 (.al 41 [(.int .u32 0), (.int .u32 0), (.int .u64 0), (.int .u32 0), (.int .u64 0), (.int .u32 0), (.string ⟨#[]⟩), (.string ⟨#[]⟩), (.string ⟨#[]⟩), (.bool false)]) <|
    .ef none none 0 (.st 10 (.tmp 11) (.tmp 138)) <|
    .rd (some 12) none none (.mv (.tmp 139)) <|
    .done) <|
  .seq (.reg <| .rd (some 141) none none (.mv (.tmp 3)) <|
    .rd (some 142) none none (.fa 9 (.tmp 6)) <|
    .rd (some 143) none none (.ld none (.tmp 142)) <|
    .ef (some 144) none 0 (.cl 17 [(.tmp 141), (.tmp 143)]) <|
    .rd (some 140) none none (.mv (.tmp 144)) <|
    .rd (some 145) none none (.ext (.tmp 140) 0) <|
    .rd (some 146) none none (.ext (.tmp 140) 1) <|
    .ef (some 13) none 0 (.al 41 [(.int .u32 0), (.int .u32 0), (.int .u64 0), (.int .u32 0), (.int .u64 0), (.int .u32 0), (.string ⟨#[]⟩), (.string ⟨#[]⟩), (.string ⟨#[]⟩), (.bool false)]) <|
    .ef none none 0 (.st 10 (.tmp 13) (.tmp 145)) <|
    .rd (some 14) none none (.mv (.tmp 146)) <|
    .done) <|
  .seq (.reg <| .rd (some 148) none none (.mv (.tmp 4)) <|
    .rd (some 149) none none (.fa 9 (.tmp 6)) <|
    .rd (some 150) none none (.ld none (.tmp 149)) <|
    .ef (some 151) none 0 (.cl 23 [(.tmp 148), (.tmp 150)]) <|
    .rd (some 147) none none (.mv (.tmp 151)) <|
    .rd (some 152) none none (.ext (.tmp 147) 0) <|
    .rd (some 153) none none (.ext (.tmp 147) 1) <|
    .ef (some 15) none 0 (.al 41 [(.int .u32 0), (.int .u32 0), (.int .u64 0), (.int .u32 0), (.int .u64 0), (.int .u32 0), (.string ⟨#[]⟩), (.string ⟨#[]⟩), (.string ⟨#[]⟩), (.bool false)]) <|
    .ef none none 0 (.st 10 (.tmp 15) (.tmp 152)) <|
    .rd (some 16) none none (.mv (.tmp 153)) <|
    .done) <|
  .seq (.reg <| .rd (some 154) none (some 79306776641536) (.ld (some 10) (.tmp 9)) <|
    .rd (some 155) none (some 79306776641536) (.ld (some 10) (.tmp 11)) <|
    .rd (some 156) none none (.eqs true [(.int .u32), (.int .u32), (.int .u64), (.int .u32), (.int .u64), (.int .u32), .str, .str, .str, .bool] (.tmp 154) (.tmp 155)) <|
    .rd (some 157) none none (.mv (.tmp 156)) <|
    .rd (some 158) (some (157, false)) none (.mv (.tmp 10)) <|
    .rd (some 159) (some (157, false)) none (.mv (.tmp 12)) <|
    .rd (some 160) (some (157, false)) none (.eqb true (.tmp 158) (.tmp 159)) <|
    .rd (some 161) none none (.pick (.tmp 157) (.const (.bool true)) (.tmp 160)) <|
    .rd (some 162) none none (.mv (.tmp 161)) <|
    .rd (some 163) (some (162, false)) (some 79306776641536) (.ld (some 10) (.tmp 13)) <|
    .rd (some 164) (some (162, false)) (some 79306776641536) (.ld (some 10) (.tmp 15)) <|
    .rd (some 165) (some (162, false)) none (.eqs true [(.int .u32), (.int .u32), (.int .u64), (.int .u32), (.int .u64), (.int .u32), .str, .str, .str, .bool] (.tmp 163) (.tmp 164)) <|
    .rd (some 166) none none (.pick (.tmp 162) (.const (.bool true)) (.tmp 165)) <|
    .rd (some 167) none none (.mv (.tmp 166)) <|
    .rd (some 168) (some (167, false)) none (.mv (.tmp 14)) <|
    .rd (some 169) (some (167, false)) none (.mv (.tmp 16)) <|
    .rd (some 170) (some (167, false)) none (.eqb true (.tmp 168) (.tmp 169)) <|
    .rd (some 171) none none (.pick (.tmp 167) (.const (.bool true)) (.tmp 170)) <|
    .rd (some 172) none none (.mv (.tmp 171)) <|
    .rd (some 173) (some (172, false)) none (.mv (.tmp 3)) <|
    .rd (some 174) (some (172, false)) none (.fa 1 (.tmp 6)) <|
    .rd (some 175) (some (172, false)) (some 79306776641536) (.ld (some 2) (.tmp 174)) <|
    .rd (some 177) (some (172, false)) none (.mv (.tmp 4)) <|
    .rd (some 178) (some (172, false)) none (.fa 1 (.tmp 6)) <|
    .rd (some 179) (some (172, false)) (some 79306772447232) (.ld (some 2) (.tmp 178)) <|
    .ef (some 176) (some (172, false)) 22 (.cl 13 [(.tmp 173), (.tmp 175)]) <|
    .ef (some 180) (some (172, false)) 26 (.cl 24 [(.tmp 177), (.tmp 179)]) <|
    .ef (some 181) (some (172, false)) 27 (.cl 19 [(.tmp 176), (.tmp 180)]) <|
    .rd (some 182) (some (172, false)) none (.un .not (.tmp 181)) <|
    .rd (some 183) none none (.pick (.tmp 172) (.const (.bool true)) (.tmp 182)) <|
    .rd (some 184) none none (.mv (.tmp 183)) <|
    .rd (some 185) (some (184, false)) none (.mv (.tmp 3)) <|
    .rd (some 187) (some (184, false)) none (.mv (.tmp 4)) <|
    .rd (some 188) (some (184, false)) none (.nz (.tmp 187)) <|
    .rd (some 189) (some (184, false)) none (.fa 0 (.tmp 188)) <|
    .rd (some 190) (some (184, false)) (some 79302276153344) (.ld none (.tmp 189)) <|
    .ef (some 186) (some (184, false)) 32 (.cl 11 [(.tmp 185)]) <|
    .ef (some 191) (some (184, false)) 37 (.cl 19 [(.tmp 186), (.tmp 190)]) <|
    .rd (some 192) (some (184, false)) none (.un .not (.tmp 191)) <|
    .rd (some 193) none none (.pick (.tmp 184) (.const (.bool true)) (.tmp 192)) <|
    .rd (some 194) none none (.mv (.tmp 193)) <|
    .rd (some 195) (some (194, false)) none (.fa 8 (.tmp 6)) <|
    .rd (some 196) (some (194, false)) (some 79164837199872) (.ld none (.tmp 195)) <|
    .rd (some 198) (some (194, false)) none (.fa 8 (.tmp 6)) <|
    .rd (some 199) (some (194, false)) (some 70368744177664) (.ld none (.tmp 198)) <|
    .ef (some 197) (some (194, false)) 43 (.cl 15 [(.tmp 196)]) <|
    .ef (some 200) (some (194, false)) 46 (.cl 25 [(.tmp 199)]) <|
    .rd (some 201) (some (194, false)) none (.eqb true (.tmp 197) (.tmp 200)) <|
    .rd (some 202) none none (.pick (.tmp 194) (.const (.bool true)) (.tmp 201)) <|
    .done) <|
  .cond (.tmp 202) (.seq (.reg <| .rd (some 2) none none (.mv (.const (.bool false))) <|
    .done) <|
  .ret) <|
  .skip) <|
  .reg <| .rd (some 203) none none (.bin .add (.tmp 24) (.const (.int .i64 1))) <|
    .rd (some 24) none none (.mv (.tmp 203)) <|
    .done
def F6 : MF := ⟨204, [(2, none)],
  .seq (.reg <| .rd (some 2) none none (.mv (.const (.bool false))) <|
    .done) <|
  .seq (.seq (.reg <| .ef (some 17) none 0 (.cl 8 []) <|
    .rd (some 18) none none (.un .not (.tmp 17)) <|
    .done) <|
  .cond (.tmp 18) (.seq (.reg <| .rd (some 2) none none (.mv (.const (.bool false))) <|
    .done) <|
  .ret) <|
  .skip) <|
  .seq (.reg <| .ef (some 19) none 0 (.cl 9 []) <|
    .rd (some 20) none none (.bld [(.slice none 0 0)] []) <|
    .ef (some 21) none 0 (.bx 55 1 (.tmp 20)) <|
    .rd (some 3) none none (.mv (.tmp 19)) <|
    .rd (some 4) none none (.mv (.tmp 21)) <|
    .done) <|
  .seq (.seq (.reg <| .rd (some 22) none none (.mv (.tmp 0)) <|
    .rd (some 23) none none (.len (.tmp 22)) <|
    .rd (some 24) none none (.mv (.const (.int .i64 0))) <|
    .done) <|
  .block 0 <|
  .loop F6b1) <|
  .seq (.reg <| .rd (some 2) none none (.mv (.const (.bool true))) <|
    .done) <|
  .ret⟩
def F6.k : List Nat := [0, 2, 3, 4, 5, 6, 7, 8, 9, 10, 11, 12, 13, 14, 15, 16, 18, 22, 23, 24, 25, 30, 34, 36, 37, 66, 68, 69, 70, 81, 87, 98, 99, 113, 202]
theorem F6.ok : trF Try.prog 6 = some F6 := by kernel_rfl

/- dovecote.dovecotelaw10.LatchNothing -/
def F7 : MF := ⟨88, [(2, none)],
  .seq (.reg <| .ef (some 1) none 0 (.bx 32 12 (.tmp 0)) <|
    .rd (some 2) none none (.mv (.const (.bool false))) <|
    .done) <|
  .seq (.seq (.reg <| .ef (some 8) none 0 (.cl 8 []) <|
    .rd (some 9) none none (.un .not (.tmp 8)) <|
    .done) <|
  .cond (.tmp 9) (.seq (.reg <| .rd (some 2) none none (.mv (.const (.bool false))) <|
    .done) <|
  .ret) <|
  .skip) <|
  .seq (.reg <| .rd (some 3) none none (.mv (.const (.pointer none))) <|
    .done) <|
  .seq (.reg <| .rd (some 11) none none (.mv (.tmp 3)) <|
    .rd (some 12) none none (.fa 9 (.tmp 1)) <|
    .rd (some 13) none none (.ld none (.tmp 12)) <|
    .rd (some 14) none none (.fa 10 (.tmp 1)) <|
    .rd (some 15) none none (.ld none (.tmp 14)) <|
    .rd (some 16) none none (.fa 5 (.tmp 1)) <|
    .rd (some 17) none none (.ld (some 2) (.tmp 16)) <|
    .rd (some 18) none none (.fa 11 (.tmp 1)) <|
    .rd (some 19) none none (.ld none (.tmp 18)) <|
    .ef (some 20) none 0 (.cl 12 [(.tmp 11), (.tmp 13), (.tmp 15), (.tmp 17), (.tmp 19)]) <|
    .rd (some 10) none none (.mv (.tmp 20)) <|
    .rd (some 21) none none (.ext (.tmp 10) 0) <|
    .rd (some 22) none none (.ext (.tmp 10) 1) <|
    .ef (some 4) none 0 (.al 41 [(.int .u32 0), (.int .u32 0), (.int .u64 0), (.int .u32 0), (.int .u64 0), (.int .u32 0), (.string ⟨#[]⟩), (.string ⟨#[]⟩), (.string ⟨#[]⟩), (.bool false)]) <|
    .ef none none 0 (.st 10 (.tmp 4) (.tmp 21)) <|
    .rd (some 5) none none (.mv (.tmp 22)) <|
    .done) <|
  .seq (.reg <| .rd (some 24) none none (.mv (.tmp 3)) <|
    .rd (some 25) none none (.fa 9 (.tmp 1)) <|
    .rd (some 26) none none (.ld none (.tmp 25)) <|
    .ef (some 27) none 0 (.cl 17 [(.tmp 24), (.tmp 26)]) <|
    .rd (some 23) none none (.mv (.tmp 27)) <|
    .rd (some 28) none none (.ext (.tmp 23) 0) <|
    .rd (some 29) none none (.ext (.tmp 23) 1) <|
    .ef (some 6) none 0 (.al 41 [(.int .u32 0), (.int .u32 0), (.int .u64 0), (.int .u32 0), (.int .u64 0), (.int .u32 0), (.string ⟨#[]⟩), (.string ⟨#[]⟩), (.string ⟨#[]⟩), (.bool false)]) <|
    .ef none none 0 (.st 10 (.tmp 6) (.tmp 28)) <|
    .rd (some 7) none none (.mv (.tmp 29)) <|
    .done) <|
  .seq (.reg <| .rd (some 30) none none (.mv (.tmp 3)) <|
    .rd (some 31) none none (.fa 1 (.tmp 1)) <|
    .rd (some 32) none (some 36047523076376576) (.ld (some 2) (.tmp 31)) <|
    .rd (some 33) none none (.fa 3 (.tmp 1)) <|
    .rd (some 34) none (some 36047523076376576) (.ld (some 2) (.tmp 33)) <|
    .rd (some 35) none none (.fa 5 (.tmp 1)) <|
    .rd (some 36) none (some 36047523076376576) (.ld (some 2) (.tmp 35)) <|
    .rd (some 37) none none (.fa 7 (.tmp 1)) <|
    .rd (some 38) none (some 36047523076376576) (.ld none (.tmp 37)) <|
    .rd (some 39) none none (.fa 8 (.tmp 1)) <|
    .rd (some 40) none (some 36047523076376576) (.ld none (.tmp 39)) <|
    .ef (some 41) none 11 (.cl 10 [(.tmp 30), (.tmp 32), (.tmp 34), (.tmp 36), (.tmp 38), (.tmp 40)]) <|
    .rd (some 42) none none (.bin .eql (.tmp 41) (.const (.int .i64 1))) <|
    .rd (some 43) none none (.mv (.tmp 42)) <|
    .rd (some 44) (some (43, true)) none (.mv (.tmp 5)) <|
    .rd (some 45) (some (43, true)) none (.un .not (.tmp 44)) <|
    .rd (some 46) none none (.pick (.tmp 43) (.tmp 45) (.const (.bool false))) <|
    .rd (some 47) none none (.mv (.tmp 46)) <|
    .rd (some 48) (some (47, true)) none (.mv (.tmp 7)) <|
    .rd (some 49) (some (47, true)) none (.un .not (.tmp 48)) <|
    .rd (some 50) none none (.pick (.tmp 47) (.tmp 49) (.const (.bool false))) <|
    .rd (some 51) none none (.mv (.tmp 50)) <|
    .rd (some 52) (some (51, true)) (some 36047523076374528) (.ld (some 10) (.tmp 4)) <|
    .rd (some 53) (some (51, true)) none (.bld [(.int .u32 0), (.int .u32 0), (.int .u64 0), (.int .u32 0), (.int .u64 0), (.int .u32 0), (.string ⟨#[]⟩), (.string ⟨#[]⟩), (.string ⟨#[]⟩), (.bool false)] []) <|
    .rd (some 54) (some (51, true)) none (.eqs false [(.int .u32), (.int .u32), (.int .u64), (.int .u32), (.int .u64), (.int .u32), .str, .str, .str, .bool] (.tmp 52) (.tmp 53)) <|
    .rd (some 55) none none (.pick (.tmp 51) (.tmp 54) (.const (.bool false))) <|
    .rd (some 56) none none (.mv (.tmp 55)) <|
    .rd (some 57) (some (56, true)) (some 36047523076374528) (.ld (some 10) (.tmp 6)) <|
    .rd (some 58) (some (56, true)) (some 36047523076374528) (.ld (some 10) (.tmp 4)) <|
    .rd (some 59) (some (56, true)) none (.eqs false [(.int .u32), (.int .u32), (.int .u64), (.int .u32), (.int .u64), (.int .u32), .str, .str, .str, .bool] (.tmp 57) (.tmp 58)) <|
    .rd (some 60) none none (.pick (.tmp 56) (.tmp 59) (.const (.bool false))) <|
    .rd (some 61) none none (.mv (.tmp 60)) <|
    .rd (some 62) (some (61, true)) none (.mv (.tmp 3)) <|
    .rd (some 63) (some (61, true)) none (.fa 1 (.tmp 1)) <|
    .rd (some 64) (some (61, true)) (some 36047523076374528) (.ld (some 2) (.tmp 63)) <|
    .rd (some 67) (some (61, true)) none (.mv (.tmp 3)) <|
    .rd (some 68) (some (61, true)) none (.fa 1 (.tmp 1)) <|
    .rd (some 69) (some (61, true)) (some 36047488716636160) (.ld (some 2) (.tmp 68)) <|
    .rd (some 73) (some (61, true)) none (.mv (.tmp 3)) <|
    .ef (some 65) (some (61, true)) 35 (.cl 13 [(.tmp 62), (.tmp 64)]) <|
    .rd (some 66) (some (61, true)) none (.len (.tmp 65)) <|
    .ef (some 70) (some (61, true)) 40 (.cl 14 [(.tmp 67), (.tmp 69)]) <|
    .rd (some 71) (some (61, true)) none (.len (.tmp 70)) <|
    .rd (some 72) (some (61, true)) none (.bin .add (.tmp 66) (.tmp 71)) <|
    .ef (some 74) (some (61, true)) 44 (.cl 11 [(.tmp 73)]) <|
    .rd (some 75) (some (61, true)) none (.len (.tmp 74)) <|
    .rd (some 76) (some (61, true)) none (.bin .add (.tmp 72) (.tmp 75)) <|
    .rd (some 77) (some (61, true)) none (.bin .eql (.tmp 76) (.const (.int .i64 0))) <|
    .rd (some 78) none none (.pick (.tmp 61) (.tmp 77) (.const (.bool false))) <|
    .rd (some 79) none none (.mv (.tmp 78)) <|
    .rd (some 80) (some (79, true)) none (.mv (.tmp 3)) <|
    .rd (some 81) (some (79, true)) none (.fa 1 (.tmp 1)) <|
    .rd (some 82) (some (79, true)) (some 36028797018963968) (.ld (some 2) (.tmp 81)) <|
    .rd (some 83) (some (79, true)) none (.fa 5 (.tmp 1)) <|
    .rd (some 84) (some (79, true)) (some 36028797018963968) (.ld (some 2) (.tmp 83)) <|
    .ef (some 85) (some (79, true)) 55 (.cl 16 [(.tmp 80), (.tmp 82), (.tmp 84)]) <|
    .rd (some 86) (some (79, true)) none (.un .not (.tmp 85)) <|
    .rd (some 87) none none (.pick (.tmp 79) (.tmp 86) (.const (.bool false))) <|
    .rd (some 2) none none (.mv (.tmp 87)) <|
    .done) <|
  .ret⟩
def F7.k : List Nat := [0, 1, 2, 3, 4, 5, 6, 7, 9]
theorem F7.ok : trF Try.prog 7 = some F7 := by kernel_rfl

/- dovecote.dovecotelaw10.awake -/
def F8 : MF := ⟨67, [(0, none)],
  .seq (.reg <| .rd (some 0) none none (.mv (.const (.bool false))) <|
    .done) <|
  .seq (.reg <| .ef (some 10) none 0 (.cl 9 []) <|
    .rd (some 1) none none (.mv (.tmp 10)) <|
    .done) <|
  .seq (.reg <| .rd (some 11) none none (.bld [(.int .u32 0), (.int .u32 0)] [(0, 1, (.const (.int .u32 1)))]) <|
    .rd (some 12) none none (.bld [(.int .u32 0), (.int .u32 0)] [(0, 1, (.const (.int .u32 2)))]) <|
    .ef (some 2) none 0 (.al 25 [(.int .u32 0), (.int .u32 0)]) <|
    .ef (some 3) none 0 (.al 25 [(.int .u32 0), (.int .u32 0)]) <|
    .ef none none 0 (.st 2 (.tmp 2) (.tmp 11)) <|
    .ef none none 0 (.st 2 (.tmp 3) (.tmp 12)) <|
    .done) <|
  .seq (.reg <| .rd (some 13) none none (.mv (.tmp 1)) <|
    .rd (some 14) none none (.ld (some 2) (.tmp 2)) <|
    .rd (some 15) none none (.bld [(.int .u64 0), (.int .u32 0)] [(0, 1, (.const (.int .u64 5)))]) <|
    .rd (some 16) none none (.bld [(.int .u64 0), (.int .u32 0)] [(0, 1, (.const (.int .u64 6)))]) <|
    .rd (some 17) none none (.bld [(.string ⟨#[]⟩), (.string ⟨#[]⟩), (.bool false)] [(0, 1, (.const (.string ⟨#[97]⟩)))]) <|
    .rd (some 18) none none (.bld [(.string ⟨#[]⟩), (.string ⟨#[]⟩), (.bool false)] [(0, 1, (.const (.string ⟨#[98]⟩)))]) <|
    .ef (some 19) none 0 (.raw ⟨none, (.buildSlice 29 2 #[(0, (.tmp 17)), (1, (.tmp 18))]), 29, "", #[], none⟩) <|
    .ef (some 20) none 0 (.cl 10 [(.tmp 13), (.tmp 14), (.tmp 15), (.tmp 16), (.const (.string ⟨#[97]⟩)), (.tmp 19)]) <|
    .rd (some 4) none none (.mv (.tmp 20)) <|
    .done) <|
  .seq (.reg <| .rd (some 21) none none (.mv (.tmp 1)) <|
    .rd (some 22) none none (.ld (some 2) (.tmp 3)) <|
    .rd (some 23) none none (.bld [(.int .u64 0), (.int .u32 0)] [(0, 1, (.const (.int .u64 7)))]) <|
    .rd (some 24) none none (.bld [(.int .u64 0), (.int .u32 0)] [(0, 1, (.const (.int .u64 8)))]) <|
    .rd (some 25) none none (.bld [(.string ⟨#[]⟩), (.string ⟨#[]⟩), (.bool false)] [(0, 1, (.const (.string ⟨#[98]⟩)))]) <|
    .ef (some 26) none 0 (.raw ⟨none, (.buildSlice 29 1 #[(0, (.tmp 25))]), 29, "", #[], none⟩) <|
    .ef (some 27) none 0 (.cl 10 [(.tmp 21), (.tmp 22), (.tmp 23), (.tmp 24), (.const (.string ⟨#[98]⟩)), (.tmp 26)]) <|
    .rd (some 5) none none (.mv (.tmp 27)) <|
    .done) <|
  .seq (.reg <| .rd (some 29) none none (.mv (.tmp 1)) <|
    .rd (some 30) none none (.bld [(.int .u64 0), (.int .u32 0)] [(0, 1, (.const (.int .u64 5)))]) <|
    .ef (some 31) none 0 (.cl 12 [(.tmp 29), (.const (.string ⟨#[]⟩)), (.const (.string ⟨#[]⟩)), (.tmp 30), (.const (.slice none 0 0))]) <|
    .rd (some 28) none none (.mv (.tmp 31)) <|
    .rd (some 32) none none (.ext (.tmp 28) 0) <|
    .rd (some 33) none none (.ext (.tmp 28) 1) <|
    .ef (some 6) none 0 (.al 41 [(.int .u32 0), (.int .u32 0), (.int .u64 0), (.int .u32 0), (.int .u64 0), (.int .u32 0), (.string ⟨#[]⟩), (.string ⟨#[]⟩), (.string ⟨#[]⟩), (.bool false)]) <|
    .ef none none 0 (.st 10 (.tmp 6) (.tmp 32)) <|
    .rd (some 7) none none (.mv (.tmp 33)) <|
    .done) <|
  .seq (.reg <| .rd (some 35) none none (.mv (.tmp 1)) <|
    .rd (some 36) none none (.bld [(.int .u64 0), (.int .u32 0)] [(0, 1, (.const (.int .u64 6)))]) <|
    .ef (some 37) none 0 (.cl 12 [(.tmp 35), (.const (.string ⟨#[]⟩)), (.const (.string ⟨#[]⟩)), (.tmp 36), (.const (.slice none 0 0))]) <|
    .rd (some 34) none none (.mv (.tmp 37)) <|
    .rd (some 38) none none (.ext (.tmp 34) 0) <|
    .rd (some 39) none none (.ext (.tmp 34) 1) <|
    .ef (some 8) none 0 (.al 41 [(.int .u32 0), (.int .u32 0), (.int .u64 0), (.int .u32 0), (.int .u64 0), (.int .u32 0), (.string ⟨#[]⟩), (.string ⟨#[]⟩), (.string ⟨#[]⟩), (.bool false)]) <|
    .ef none none 0 (.st 10 (.tmp 8) (.tmp 38)) <|
    .rd (some 9) none none (.mv (.tmp 39)) <|
    .done) <|
  .seq (.reg <| .rd (some 40) none none (.mv (.tmp 4)) <|
    .rd (some 41) none none (.bin .eql (.tmp 40) (.const (.int .i64 0))) <|
    .rd (some 42) none none (.mv (.tmp 41)) <|
    .rd (some 43) (some (42, true)) none (.mv (.tmp 5)) <|
    .rd (some 44) (some (42, true)) none (.bin .eql (.tmp 43) (.const (.int .i64 40))) <|
    .rd (some 45) none none (.pick (.tmp 42) (.tmp 44) (.const (.bool false))) <|
    .rd (some 46) none none (.mv (.tmp 45)) <|
    .rd (some 47) (some (46, true)) none (.mv (.tmp 7)) <|
    .rd (some 48) (some (46, true)) none (.un .not (.tmp 47)) <|
    .rd (some 49) none none (.pick (.tmp 46) (.tmp 48) (.const (.bool false))) <|
    .rd (some 50) none none (.mv (.tmp 49)) <|
    .rd (some 51) (some (50, true)) none (.mv (.tmp 9)) <|
    .rd (some 52) none none (.pick (.tmp 50) (.tmp 51) (.const (.bool false))) <|
    .rd (some 53) none none (.mv (.tmp 52)) <|
    .rd (some 54) (some (53, true)) none (.fa 7 (.tmp 8)) <|
    .rd (some 55) (some (53, true)) none (.fa 0 (.tmp 54)) <|
    .rd (some 56) (some (53, true)) none (.ld none (.tmp 55)) <|
    .rd (some 57) (some (53, true)) none (.bin .eql (.tmp 56) (.const (.string ⟨#[97]⟩))) <|
    .rd (some 58) none none (.pick (.tmp 53) (.tmp 57) (.const (.bool false))) <|
    .rd (some 59) none none (.mv (.tmp 58)) <|
    .rd (some 60) (some (59, true)) none (.fa 0 (.tmp 8)) <|
    .rd (some 61) (some (59, true)) none (.ld (some 2) (.tmp 60)) <|
    .rd (some 62) (some (59, true)) none (.ld (some 2) (.tmp 2)) <|
    .rd (some 63) (some (59, true)) none (.eqs false [(.int .u32), (.int .u32)] (.tmp 61) (.tmp 62)) <|
    .rd (some 64) none none (.pick (.tmp 59) (.tmp 63) (.const (.bool false))) <|
    .rd (some 65) none none (.mv (.tmp 64)) <|
    .rd (some 66) none none (.pick (.tmp 65) (.const (.bool true)) (.const (.bool false))) <|
    .rd (some 0) none none (.mv (.tmp 66)) <|
    .done) <|
  .ret⟩
def F8.k : List Nat := [0, 1, 2, 3, 4, 5, 7, 8, 9]
theorem F8.ok : trF Try.prog 8 = some F8 := by kernel_rfl

/- (*dovecote.dovecoteref10.Table).Lay -/
abbrev F18b0 : MC :=
  .seq (.seq (.reg <| .rd (some 40) none none (.mv (.tmp 13)) <|
    .rd (some 41) none none (.mv (.tmp 5)) <|
    .rd (some 42) none none (.len (.tmp 41)) <|
    .rd (some 43) none none (.bin .lss (.tmp 40) (.tmp 42)) <|
    .done) <|
  .cond (.tmp 43) (.skip) <|
  .exit 0) <|
  .seq (.block 1 <|
  .seq (.reg <| .rd (some 47) none none (.mv (.tmp 0)) <|
    .rd (some 48) none none (.mv (.tmp 5)) <|
    .rd (some 49) none none (.mv (.tmp 13)) <|
    .rd (some 50) none none (.ia 3 (.tmp 48) (.tmp 49)) <|
    .rd (some 51) none none (.fa 0 (.tmp 50)) <|
    .rd (some 52) none none (.ld none (.tmp 51)) <|
    .ef (some 53) none 0 (.cl 23 [(.tmp 47), (.tmp 52)]) <|
    .rd (some 46) none none (.mv (.tmp 53)) <|
    .rd (some 54) none none (.ext (.tmp 46) 0) <|
    .rd (some 55) none none (.ext (.tmp 46) 1) <|
    .ef (some 14) none 0 (.al 41 [(.int .u32 0), (.int .u32 0), (.int .u64 0), (.int .u32 0), (.int .u64 0), (.int .u32 0), (.string ⟨#[]⟩), (.string ⟨#[]⟩), (.string ⟨#[]⟩), (.bool false)]) <|
    .ef none none 0 (.st 10 (.tmp 14) (.tmp 54)) <|
    .rd (some 15) none none (.mv (.tmp 55)) <|
    .done) <|
  .seq (.reg <| .rd (some 56) none none (.mv (.tmp 15)) <|
    .done) <|
  .cond (.tmp 56) (.seq (.reg <| .rd (some 12) none none (.mv (.const (.int .i64 40))) <|
    .done) <|
  .ret) <|
  .skip) <|
  .reg <| .rd (some 44) none none (.mv (.tmp 13)) <|
    .rd (some 45) none none (.bin .add (.tmp 44) (.const (.int .i64 1))) <|
    .rd (some 13) none none (.mv (.tmp 45)) <|
    .done
abbrev F18b1 : MC :=
  .seq (.seq (.reg <| .rd (some 57) none none (.mv (.tmp 16)) <|
    .rd (some 58) none none (.mv (.tmp 5)) <|
    .rd (some 59) none none (.len (.tmp 58)) <|
    .rd (some 60) none none (.bin .lss (.tmp 57) (.tmp 59)) <|
    .done) <|
  .cond (.tmp 60) (.skip) <|
  .exit 2) <|
  .seq (.block 3 <|
  .reg <| .rd (some 63) none none (.mv (.tmp 0)) <|
    .rd (some 64) none (some 1024) (.ld (some 2) (.tmp 7)) <|
    .rd (some 65) none (some 1024) (.ld (some 2) (.tmp 8)) <|
    .rd (some 66) none (some 1024) (.ld (some 2) (.tmp 9)) <|
    .rd (some 67) none none (.mv (.tmp 4)) <|
    .rd (some 68) none none (.mv (.tmp 5)) <|
    .rd (some 69) none none (.mv (.tmp 16)) <|
    .rd (some 70) none none (.ia 3 (.tmp 68) (.tmp 69)) <|
    .rd (some 71) none (some 1024) (.ld (some 3) (.tmp 70)) <|
    .rd (some 72) none none (.bld [(.int .u32 0), (.int .u32 0), (.int .u64 0), (.int .u32 0), (.int .u64 0), (.int .u32 0), (.string ⟨#[]⟩), (.string ⟨#[]⟩), (.string ⟨#[]⟩), (.bool false)] [(0, 2, (.tmp 64)), (2, 2, (.tmp 65)), (4, 2, (.tmp 66)), (6, 1, (.tmp 67)), (7, 3, (.tmp 71))]) <|
    .ef (some 73) none 10 (.cl 44 [(.tmp 63), (.tmp 72)]) <|
    .done) <|
  .reg <| .rd (some 61) none none (.mv (.tmp 16)) <|
    .rd (some 62) none none (.bin .add (.tmp 61) (.const (.int .i64 1))) <|
    .rd (some 16) none none (.mv (.tmp 62)) <|
    .done
def F18 : MF := ⟨74, [(12, none)],
  .seq (.reg <| .ef (some 7) none 0 (.bx 25 2 (.tmp 1)) <|
    .ef (some 8) none 0 (.bx 28 2 (.tmp 2)) <|
    .ef (some 9) none 0 (.bx 28 2 (.tmp 3)) <|
    .rd (some 12) none none (.mv (.const (.int .i64 0))) <|
    .done) <|
  .seq (.seq (.reg <| .rd (some 17) none none (.mv (.tmp 5)) <|
    .ef (some 18) none 0 (.cl 25 [(.tmp 17)]) <|
    .rd (some 19) none none (.un .not (.tmp 18)) <|
    .rd (some 20) none none (.mv (.tmp 19)) <|
    .rd (some 21) (some (20, false)) none (.ld (some 2) (.tmp 8)) <|
    .ef (some 22) (some (20, false)) 0 (.cl 42 [(.tmp 21)]) <|
    .rd (some 23) (some (20, false)) none (.un .not (.tmp 22)) <|
    .rd (some 24) none none (.pick (.tmp 20) (.const (.bool true)) (.tmp 23)) <|
    .rd (some 25) none none (.mv (.tmp 24)) <|
    .rd (some 26) (some (25, false)) none (.ld (some 2) (.tmp 9)) <|
    .ef (some 27) (some (25, false)) 0 (.cl 42 [(.tmp 26)]) <|
    .rd (some 28) (some (25, false)) none (.un .not (.tmp 27)) <|
    .rd (some 29) none none (.pick (.tmp 25) (.const (.bool true)) (.tmp 28)) <|
    .rd (some 30) none none (.mv (.tmp 29)) <|
    .rd (some 31) (some (30, false)) none (.mv (.tmp 4)) <|
    .ef (some 32) (some (30, false)) 0 (.cl 43 [(.tmp 31)]) <|
    .rd (some 33) (some (30, false)) none (.un .not (.tmp 32)) <|
    .rd (some 34) none none (.pick (.tmp 30) (.const (.bool true)) (.tmp 33)) <|
    .done) <|
  .cond (.tmp 34) (.seq (.reg <| .rd (some 12) none none (.mv (.const (.int .i64 1))) <|
    .done) <|
  .ret) <|
  .skip) <|
  .seq (.seq (.reg <| .rd (some 35) none none (.mv (.tmp 0)) <|
    .rd (some 36) none none (.ld (some 2) (.tmp 7)) <|
    .ef (some 37) none 0 (.cl 24 [(.tmp 35), (.tmp 36)]) <|
    .rd (some 38) none none (.len (.tmp 37)) <|
    .rd (some 39) none none (.bin .gtr (.tmp 38) (.const (.int .i64 0))) <|
    .done) <|
  .cond (.tmp 39) (.seq (.reg <| .rd (some 12) none none (.mv (.const (.int .i64 40))) <|
    .done) <|
  .ret) <|
  .skip) <|
  .seq (.seq (.reg <| .rd (some 13) none none (.mv (.const (.int .i64 0))) <|
    .done) <|
  .block 0 <|
  .loop F18b0) <|
  .seq (.seq (.reg <| .rd (some 16) none none (.mv (.const (.int .i64 0))) <|
    .done) <|
  .block 2 <|
  .loop F18b1) <|
  .seq (.reg <| .rd (some 12) none none (.mv (.const (.int .i64 0))) <|
    .done) <|
  .ret⟩
def F18.k : List Nat := [0, 1, 2, 3, 4, 5, 7, 8, 9, 12, 13, 15, 16, 34, 39, 43, 56, 60]
theorem F18.ok : trF Try.prog 18 = some F18 := by kernel_rfl

/- dovecote.dovecoteref10.Same -/
abbrev F19b0 : MC :=
  .seq (.seq (.reg <| .rd (some 11) none none (.mv (.tmp 5)) <|
    .rd (some 12) none none (.mv (.tmp 0)) <|
    .rd (some 13) none none (.len (.tmp 12)) <|
    .rd (some 14) none none (.bin .lss (.tmp 11) (.tmp 13)) <|
    .done) <|
  .cond (.tmp 14) (.skip) <|
  .exit 0) <|
  .seq (.block 1 <|
  .seq (.reg <| .rd (some 17) none none (.mv (.tmp 0)) <|
    .rd (some 18) none none (.mv (.tmp 5)) <|
    .rd (some 19) none none (.ia 10 (.tmp 17) (.tmp 18)) <|
    .rd (some 20) none (some 0) (.ld (some 10) (.tmp 19)) <|
    .rd (some 21) none none (.mv (.tmp 1)) <|
    .rd (some 22) none none (.mv (.tmp 5)) <|
    .rd (some 23) none none (.ia 10 (.tmp 21) (.tmp 22)) <|
    .rd (some 24) none (some 0) (.ld (some 10) (.tmp 23)) <|
    .rd (some 25) none none (.eqs true [(.int .u32), (.int .u32), (.int .u64), (.int .u32), (.int .u64), (.int .u32), .str, .str, .str, .bool] (.tmp 20) (.tmp 24)) <|
    .done) <|
  .cond (.tmp 25) (.seq (.reg <| .rd (some 4) none none (.mv (.const (.bool false))) <|
    .done) <|
  .ret) <|
  .skip) <|
  .reg <| .rd (some 15) none none (.mv (.tmp 5)) <|
    .rd (some 16) none none (.bin .add (.tmp 15) (.const (.int .i64 1))) <|
    .rd (some 5) none none (.mv (.tmp 16)) <|
    .done
def F19 : MF := ⟨26, [(4, none)],
  .seq (.reg <| .rd (some 4) none none (.mv (.const (.bool false))) <|
    .done) <|
  .seq (.seq (.reg <| .rd (some 6) none none (.mv (.tmp 0)) <|
    .rd (some 7) none none (.len (.tmp 6)) <|
    .rd (some 8) none none (.mv (.tmp 1)) <|
    .rd (some 9) none none (.len (.tmp 8)) <|
    .rd (some 10) none none (.bin .neq (.tmp 7) (.tmp 9)) <|
    .done) <|
  .cond (.tmp 10) (.seq (.reg <| .rd (some 4) none none (.mv (.const (.bool false))) <|
    .done) <|
  .ret) <|
  .skip) <|
  .seq (.seq (.reg <| .rd (some 5) none none (.mv (.const (.int .i64 0))) <|
    .done) <|
  .block 0 <|
  .loop F19b0) <|
  .seq (.reg <| .rd (some 4) none none (.mv (.const (.bool true))) <|
    .done) <|
  .ret⟩
def F19.k : List Nat := [0, 1, 4, 5, 10, 14, 25]
theorem F19.ok : trF Try.prog 19 = some F19 := by kernel_rfl

/- (*dovecote.dovecoteref10.Table).Cut -/
abbrev F20b0 : MC :=
  .seq (.seq (.reg <| .rd (some 11) none none (.mv (.tmp 7)) <|
    .rd (some 12) none none (.mv (.tmp 0)) <|
    .rd (some 13) none none (.nz (.tmp 12)) <|
    .rd (some 14) none none (.fa 0 (.tmp 13)) <|
    .rd (some 15) none none (.ld none (.tmp 14)) <|
    .rd (some 16) none none (.len (.tmp 15)) <|
    .rd (some 17) none none (.bin .lss (.tmp 11) (.tmp 16)) <|
    .done) <|
  .cond (.tmp 17) (.skip) <|
  .exit 0) <|
  .seq (.block 1 <|
  .seq (.reg <| .rd (some 20) none none (.mv (.tmp 0)) <|
    .rd (some 21) none none (.nz (.tmp 20)) <|
    .rd (some 22) none none (.fa 0 (.tmp 21)) <|
    .rd (some 23) none (some 0) (.ld none (.tmp 22)) <|
    .rd (some 24) none none (.mv (.tmp 7)) <|
    .rd (some 25) none none (.ia 10 (.tmp 23) (.tmp 24)) <|
    .rd (some 26) none none (.fa 0 (.tmp 25)) <|
    .rd (some 27) none (some 0) (.ld (some 2) (.tmp 26)) <|
    .rd (some 28) none (some 0) (.ld (some 2) (.tmp 3)) <|
    .rd (some 29) none none (.eqs true [(.int .u32), (.int .u32)] (.tmp 27) (.tmp 28)) <|
    .done) <|
  .cond (.tmp 29) (.reg <| .rd (some 30) none none (.mv (.tmp 6)) <|
    .rd (some 31) none none (.mv (.tmp 0)) <|
    .rd (some 32) none none (.nz (.tmp 31)) <|
    .rd (some 33) none none (.fa 0 (.tmp 32)) <|
    .rd (some 34) none none (.ld none (.tmp 33)) <|
    .rd (some 35) none none (.mv (.tmp 7)) <|
    .rd (some 36) none none (.ia 10 (.tmp 34) (.tmp 35)) <|
    .rd (some 37) none none (.ld (some 10) (.tmp 36)) <|
    .ef (some 38) none 0 (.raw ⟨none, (.buildSlice 42 1 #[(0, (.tmp 37))]), 42, "", #[], none⟩) <|
    .ef (some 39) none 0 (.raw ⟨none, (.call ⟨(.builtin .append), #[(.tmp 30), (.tmp 38)], #[42, 42]⟩), 42, "", #[], none⟩) <|
    .rd (some 6) none none (.mv (.tmp 39)) <|
    .done) <|
  .skip) <|
  .reg <| .rd (some 18) none none (.mv (.tmp 7)) <|
    .rd (some 19) none none (.bin .add (.tmp 18) (.const (.int .i64 1))) <|
    .rd (some 7) none none (.mv (.tmp 19)) <|
    .done
def F20 : MF := ⟨45, [(4, none)],
  .seq (.reg <| .ef (some 3) none 0 (.bx 25 2 (.tmp 1)) <|
    .rd (some 4) none none (.mv (.const (.slice none 0 0))) <|
    .done) <|
  .seq (.reg <| .rd (some 8) none none (.mv (.tmp 0)) <|
    .rd (some 9) none none (.ld (some 2) (.tmp 3)) <|
    .ef (some 10) none 0 (.cl 24 [(.tmp 8), (.tmp 9)]) <|
    .rd (some 5) none none (.mv (.tmp 10)) <|
    .done) <|
  .seq (.reg <| .rd (some 6) none none (.mv (.const (.slice none 0 0))) <|
    .done) <|
  .seq (.seq (.reg <| .rd (some 7) none none (.mv (.const (.int .i64 0))) <|
    .done) <|
  .block 0 <|
  .loop F20b0) <|
  .seq (.reg <| .rd (some 40) none none (.mv (.tmp 0)) <|
    .rd (some 41) none none (.mv (.tmp 6)) <|
    .rd (some 42) none none (.nz (.tmp 40)) <|
    .rd (some 43) none none (.fa 0 (.tmp 42)) <|
    .ef none none 0 (.st 1 (.tmp 43) (.tmp 41)) <|
    .done) <|
  .seq (.reg <| .rd (some 44) none none (.mv (.tmp 5)) <|
    .rd (some 4) none none (.mv (.tmp 44)) <|
    .done) <|
  .ret⟩
def F20.k : List Nat := [0, 1, 3, 4, 5, 6, 7, 17, 29]
theorem F20.ok : trF Try.prog 20 = some F20 := by kernel_rfl

/- (*dovecote.dovecoteref10.Table).Raise -/
abbrev F21b0 : MC :=
  .seq (.seq (.reg <| .rd (some 18) none none (.mv (.tmp 7)) <|
    .rd (some 19) none none (.mv (.tmp 0)) <|
    .rd (some 20) none none (.nz (.tmp 19)) <|
    .rd (some 21) none none (.fa 0 (.tmp 20)) <|
    .rd (some 22) none none (.ld none (.tmp 21)) <|
    .rd (some 23) none none (.len (.tmp 22)) <|
    .rd (some 24) none none (.bin .lss (.tmp 18) (.tmp 23)) <|
    .done) <|
  .cond (.tmp 24) (.skip) <|
  .exit 0) <|
  .seq (.block 1 <|
  .seq (.reg <| .rd (some 27) none none (.mv (.tmp 0)) <|
    .rd (some 28) none none (.nz (.tmp 27)) <|
    .rd (some 29) none none (.fa 0 (.tmp 28)) <|
    .rd (some 30) none (some 0) (.ld none (.tmp 29)) <|
    .rd (some 31) none none (.mv (.tmp 7)) <|
    .rd (some 32) none none (.ia 10 (.tmp 30) (.tmp 31)) <|
    .rd (some 33) none none (.fa 0 (.tmp 32)) <|
    .rd (some 34) none (some 0) (.ld (some 2) (.tmp 33)) <|
    .rd (some 35) none (some 0) (.ld (some 2) (.tmp 4)) <|
    .rd (some 36) none none (.eqs false [(.int .u32), (.int .u32)] (.tmp 34) (.tmp 35)) <|
    .done) <|
  .cond (.tmp 36) (.reg <| .rd (some 37) none none (.mv (.tmp 0)) <|
    .rd (some 38) none none (.nz (.tmp 37)) <|
    .rd (some 39) none none (.fa 0 (.tmp 38)) <|
    .rd (some 40) none (some 131072) (.ld none (.tmp 39)) <|
    .rd (some 41) none none (.mv (.tmp 7)) <|
    .rd (some 42) none none (.mv (.tmp 0)) <|
    .rd (some 43) none none (.nz (.tmp 42)) <|
    .rd (some 44) none none (.fa 0 (.tmp 43)) <|
    .rd (some 45) none (some 147456) (.ld none (.tmp 44)) <|
    .rd (some 46) none none (.mv (.tmp 7)) <|
    .rd (some 47) none none (.ia 10 (.tmp 45) (.tmp 46)) <|
    .rd (some 48) none none (.fa 4 (.tmp 47)) <|
    .rd (some 49) none (some 147456) (.ld (some 2) (.tmp 48)) <|
    .rd (some 50) none (some 147456) (.ld (some 2) (.tmp 5)) <|
    .ef (some 51) none 14 (.cl 45 [(.tmp 49), (.tmp 50)]) <|
    .rd (some 52) none none (.ia 10 (.tmp 40) (.tmp 41)) <|
    .rd (some 53) none none (.fa 4 (.tmp 52)) <|
    .ef none none 17 (.st 2 (.tmp 53) (.tmp 51)) <|
    .done) <|
  .skip) <|
  .reg <| .rd (some 25) none none (.mv (.tmp 7)) <|
    .rd (some 26) none none (.bin .add (.tmp 25) (.const (.int .i64 1))) <|
    .rd (some 7) none none (.mv (.tmp 26)) <|
    .done
def F21 : MF := ⟨54, [(6, none)],
  .seq (.reg <| .ef (some 4) none 0 (.bx 25 2 (.tmp 1)) <|
    .ef (some 5) none 0 (.bx 28 2 (.tmp 2)) <|
    .rd (some 6) none none (.mv (.const (.bool false))) <|
    .done) <|
  .seq (.seq (.reg <| .rd (some 8) none none (.mv (.tmp 0)) <|
    .rd (some 9) none none (.ld (some 2) (.tmp 4)) <|
    .ef (some 10) none 0 (.cl 24 [(.tmp 8), (.tmp 9)]) <|
    .rd (some 11) none none (.len (.tmp 10)) <|
    .rd (some 12) none none (.bin .eql (.tmp 11) (.const (.int .i64 0))) <|
    .rd (some 13) none none (.mv (.tmp 12)) <|
    .rd (some 14) (some (13, false)) none (.ld (some 2) (.tmp 5)) <|
    .ef (some 15) (some (13, false)) 0 (.cl 42 [(.tmp 14)]) <|
    .rd (some 16) (some (13, false)) none (.un .not (.tmp 15)) <|
    .rd (some 17) none none (.pick (.tmp 13) (.const (.bool true)) (.tmp 16)) <|
    .done) <|
  .cond (.tmp 17) (.seq (.reg <| .rd (some 6) none none (.mv (.const (.bool false))) <|
    .done) <|
  .ret) <|
  .skip) <|
  .seq (.seq (.reg <| .rd (some 7) none none (.mv (.const (.int .i64 0))) <|
    .done) <|
  .block 0 <|
  .loop F21b0) <|
  .seq (.reg <| .rd (some 6) none none (.mv (.const (.bool true))) <|
    .done) <|
  .ret⟩
def F21.k : List Nat := [0, 1, 2, 4, 5, 6, 7, 17, 24, 36]
theorem F21.ok : trF Try.prog 21 = some F21 := by kernel_rfl

/- (*dovecote.dovecoteref10.Table).First -/
abbrev F22b0 : MC :=
  .seq (.seq (.reg <| .rd (some 15) none none (.mv (.tmp 12)) <|
    .rd (some 16) none none (.mv (.tmp 0)) <|
    .rd (some 17) none none (.nz (.tmp 16)) <|
    .rd (some 18) none none (.fa 0 (.tmp 17)) <|
    .rd (some 19) none none (.ld none (.tmp 18)) <|
    .rd (some 20) none none (.len (.tmp 19)) <|
    .rd (some 21) none none (.bin .lss (.tmp 15) (.tmp 20)) <|
    .done) <|
  .cond (.tmp 21) (.skip) <|
  .exit 0) <|
  .seq (.block 1 <|
  .seq (.reg <| .rd (some 24) none none (.mv (.tmp 0)) <|
    .rd (some 25) none none (.nz (.tmp 24)) <|
    .rd (some 26) none none (.fa 0 (.tmp 25)) <|
    .rd (some 27) none none (.ld none (.tmp 26)) <|
    .rd (some 28) none none (.mv (.tmp 12)) <|
    .rd (some 29) none none (.ia 10 (.tmp 27) (.tmp 28)) <|
    .rd (some 30) none none (.ld (some 10) (.tmp 29)) <|
    .ef (some 13) none 0 (.al 41 [(.int .u32 0), (.int .u32 0), (.int .u64 0), (.int .u32 0), (.int .u64 0), (.int .u32 0), (.string ⟨#[]⟩), (.string ⟨#[]⟩), (.string ⟨#[]⟩), (.bool false)]) <|
    .ef none none 0 (.st 10 (.tmp 13) (.tmp 30)) <|
    .done) <|
  .seq (.reg <| .rd (some 31) none none (.fa 7 (.tmp 13)) <|
    .rd (some 32) none none (.fa 0 (.tmp 31)) <|
    .rd (some 33) none none (.ld none (.tmp 32)) <|
    .rd (some 14) none none (.mv (.tmp 33)) <|
    .done) <|
  .seq (.reg <| .rd (some 34) none none (.mv (.tmp 14)) <|
    .rd (some 35) none none (.mv (.tmp 1)) <|
    .rd (some 36) none none (.bin .geq (.tmp 34) (.tmp 35)) <|
    .rd (some 37) none none (.mv (.tmp 36)) <|
    .rd (some 38) (some (37, true)) none (.mv (.tmp 2)) <|
    .rd (some 39) (some (37, true)) none (.bin .eql (.tmp 38) (.const (.string ⟨#[]⟩))) <|
    .rd (some 40) (some (37, true)) none (.mv (.tmp 39)) <|
    .rd (some 41) (some (40, false)) none (.mv (.tmp 14)) <|
    .rd (some 42) (some (40, false)) none (.mv (.tmp 2)) <|
    .rd (some 43) (some (40, false)) none (.bin .lss (.tmp 41) (.tmp 42)) <|
    .rd (some 44) (some (37, true)) none (.pick (.tmp 40) (.const (.bool true)) (.tmp 43)) <|
    .rd (some 45) none none (.pick (.tmp 37) (.tmp 44) (.const (.bool false))) <|
    .rd (some 46) none none (.mv (.tmp 45)) <|
    .rd (some 47) (some (46, true)) none (.ld (some 2) (.tmp 8)) <|
    .rd (some 48) (some (46, true)) none (.fa 4 (.tmp 13)) <|
    .rd (some 49) (some (46, true)) none (.ld (some 2) (.tmp 48)) <|
    .ef (some 50) (some (46, true)) 0 (.cl 46 [(.tmp 47), (.tmp 49)]) <|
    .rd (some 51) (some (46, true)) none (.un .not (.tmp 50)) <|
    .rd (some 52) none none (.pick (.tmp 46) (.tmp 51) (.const (.bool false))) <|
    .rd (some 53) none none (.mv (.tmp 52)) <|
    .rd (some 54) (some (53, true)) none (.mv (.tmp 4)) <|
    .rd (some 55) (some (53, true)) none (.fa 0 (.tmp 13)) <|
    .rd (some 56) (some (53, true)) none (.ld (some 2) (.tmp 55)) <|
    .ef (some 57) (some (53, true)) 0 (.cl 47 [(.tmp 54), (.tmp 56)]) <|
    .rd (some 58) (some (53, true)) none (.un .not (.tmp 57)) <|
    .rd (some 59) none none (.pick (.tmp 53) (.tmp 58) (.const (.bool false))) <|
    .done) <|
  .cond (.tmp 59) (.seq (.reg <| .rd (some 60) none none (.ld (some 10) (.tmp 13)) <|
    .ef none none 0 (.st 10 (.tmp 10) (.tmp 60)) <|
    .rd (some 11) none none (.mv (.const (.bool true))) <|
    .done) <|
  .ret) <|
  .skip) <|
  .reg <| .rd (some 22) none none (.mv (.tmp 12)) <|
    .rd (some 23) none none (.bin .add (.tmp 22) (.const (.int .i64 1))) <|
    .rd (some 12) none none (.mv (.tmp 23)) <|
    .done
def F22 : MF := ⟨62, [(10, (some (some 10))), (11, none)],
  .seq (.reg <| .ef (some 8) none 0 (.bx 28 2 (.tmp 3)) <|
    .ef (some 10) none 0 (.al 41 [(.int .u32 0), (.int .u32 0), (.int .u64 0), (.int .u32 0), (.int .u64 0), (.int .u32 0), (.string ⟨#[]⟩), (.string ⟨#[]⟩), (.string ⟨#[]⟩), (.bool false)]) <|
    .rd (some 11) none none (.mv (.const (.bool false))) <|
    .done) <|
  .seq (.seq (.reg <| .rd (some 12) none none (.mv (.const (.int .i64 0))) <|
    .done) <|
  .block 0 <|
  .loop F22b0) <|
  .seq (.reg <| .rd (some 61) none none (.bld [(.int .u32 0), (.int .u32 0), (.int .u64 0), (.int .u32 0), (.int .u64 0), (.int .u32 0), (.string ⟨#[]⟩), (.string ⟨#[]⟩), (.string ⟨#[]⟩), (.bool false)] []) <|
    .ef none none 0 (.st 10 (.tmp 10) (.tmp 61)) <|
    .rd (some 11) none none (.mv (.const (.bool false))) <|
    .done) <|
  .ret⟩
def F22.k : List Nat := [0, 1, 2, 3, 4, 8, 10, 11, 12, 13, 14, 21, 59]
theorem F22.ok : trF Try.prog 22 = some F22 := by kernel_rfl

/- (*dovecote.dovecoteref10.Table).Of -/
abbrev F23b0 : MC :=
  .seq (.seq (.reg <| .rd (some 7) none none (.mv (.tmp 6)) <|
    .rd (some 8) none none (.mv (.tmp 0)) <|
    .rd (some 9) none none (.nz (.tmp 8)) <|
    .rd (some 10) none none (.fa 0 (.tmp 9)) <|
    .rd (some 11) none none (.ld none (.tmp 10)) <|
    .rd (some 12) none none (.len (.tmp 11)) <|
    .rd (some 13) none none (.bin .lss (.tmp 7) (.tmp 12)) <|
    .done) <|
  .cond (.tmp 13) (.skip) <|
  .exit 0) <|
  .seq (.block 1 <|
  .seq (.reg <| .rd (some 16) none none (.mv (.tmp 0)) <|
    .rd (some 17) none none (.nz (.tmp 16)) <|
    .rd (some 18) none none (.fa 0 (.tmp 17)) <|
    .rd (some 19) none none (.ld none (.tmp 18)) <|
    .rd (some 20) none none (.mv (.tmp 6)) <|
    .rd (some 21) none none (.ia 10 (.tmp 19) (.tmp 20)) <|
    .rd (some 22) none none (.fa 7 (.tmp 21)) <|
    .rd (some 23) none none (.fa 0 (.tmp 22)) <|
    .rd (some 24) none none (.ld none (.tmp 23)) <|
    .rd (some 25) none none (.mv (.tmp 1)) <|
    .rd (some 26) none none (.bin .eql (.tmp 24) (.tmp 25)) <|
    .done) <|
  .cond (.tmp 26) (.seq (.reg <| .rd (some 27) none none (.mv (.tmp 0)) <|
    .rd (some 28) none none (.nz (.tmp 27)) <|
    .rd (some 29) none none (.fa 0 (.tmp 28)) <|
    .rd (some 30) none none (.ld none (.tmp 29)) <|
    .rd (some 31) none none (.mv (.tmp 6)) <|
    .rd (some 32) none none (.ia 10 (.tmp 30) (.tmp 31)) <|
    .rd (some 33) none none (.ld (some 10) (.tmp 32)) <|
    .ef none none 0 (.st 10 (.tmp 4) (.tmp 33)) <|
    .rd (some 5) none none (.mv (.const (.bool true))) <|
    .done) <|
  .ret) <|
  .skip) <|
  .reg <| .rd (some 14) none none (.mv (.tmp 6)) <|
    .rd (some 15) none none (.bin .add (.tmp 14) (.const (.int .i64 1))) <|
    .rd (some 6) none none (.mv (.tmp 15)) <|
    .done
def F23 : MF := ⟨35, [(4, (some (some 10))), (5, none)],
  .seq (.reg <| .ef (some 4) none 0 (.al 41 [(.int .u32 0), (.int .u32 0), (.int .u64 0), (.int .u32 0), (.int .u64 0), (.int .u32 0), (.string ⟨#[]⟩), (.string ⟨#[]⟩), (.string ⟨#[]⟩), (.bool false)]) <|
    .rd (some 5) none none (.mv (.const (.bool false))) <|
    .done) <|
  .seq (.seq (.reg <| .rd (some 6) none none (.mv (.const (.int .i64 0))) <|
    .done) <|
  .block 0 <|
  .loop F23b0) <|
  .seq (.reg <| .rd (some 34) none none (.bld [(.int .u32 0), (.int .u32 0), (.int .u64 0), (.int .u32 0), (.int .u64 0), (.int .u32 0), (.string ⟨#[]⟩), (.string ⟨#[]⟩), (.string ⟨#[]⟩), (.bool false)] []) <|
    .ef none none 0 (.st 10 (.tmp 4) (.tmp 34)) <|
    .rd (some 5) none none (.mv (.const (.bool false))) <|
    .done) <|
  .ret⟩
def F23.k : List Nat := [0, 1, 4, 5, 6, 13, 26]
theorem F23.ok : trF Try.prog 23 = some F23 := by kernel_rfl

/- (*dovecote.dovecoteref10.Table).By -/
abbrev F24b0 : MC :=
  .seq (.seq (.reg <| .rd (some 7) none none (.mv (.tmp 6)) <|
    .rd (some 8) none none (.mv (.tmp 0)) <|
    .rd (some 9) none none (.nz (.tmp 8)) <|
    .rd (some 10) none none (.fa 0 (.tmp 9)) <|
    .rd (some 11) none none (.ld none (.tmp 10)) <|
    .rd (some 12) none none (.len (.tmp 11)) <|
    .rd (some 13) none none (.bin .lss (.tmp 7) (.tmp 12)) <|
    .done) <|
  .cond (.tmp 13) (.skip) <|
  .exit 0) <|
  .seq (.block 1 <|
  .seq (.reg <| .rd (some 16) none none (.mv (.tmp 0)) <|
    .rd (some 17) none none (.nz (.tmp 16)) <|
    .rd (some 18) none none (.fa 0 (.tmp 17)) <|
    .rd (some 19) none (some 0) (.ld none (.tmp 18)) <|
    .rd (some 20) none none (.mv (.tmp 6)) <|
    .rd (some 21) none none (.ia 10 (.tmp 19) (.tmp 20)) <|
    .rd (some 22) none none (.fa 0 (.tmp 21)) <|
    .rd (some 23) none (some 0) (.ld (some 2) (.tmp 22)) <|
    .rd (some 24) none (some 0) (.ld (some 2) (.tmp 3)) <|
    .rd (some 25) none none (.eqs false [(.int .u32), (.int .u32)] (.tmp 23) (.tmp 24)) <|
    .done) <|
  .cond (.tmp 25) (.reg <| .rd (some 26) none none (.mv (.tmp 5)) <|
    .rd (some 27) none none (.mv (.tmp 0)) <|
    .rd (some 28) none none (.nz (.tmp 27)) <|
    .rd (some 29) none none (.fa 0 (.tmp 28)) <|
    .rd (some 30) none none (.ld none (.tmp 29)) <|
    .rd (some 31) none none (.mv (.tmp 6)) <|
    .rd (some 32) none none (.ia 10 (.tmp 30) (.tmp 31)) <|
    .rd (some 33) none none (.ld (some 10) (.tmp 32)) <|
    .ef (some 34) none 0 (.raw ⟨none, (.buildSlice 42 1 #[(0, (.tmp 33))]), 42, "", #[], none⟩) <|
    .ef (some 35) none 0 (.raw ⟨none, (.call ⟨(.builtin .append), #[(.tmp 26), (.tmp 34)], #[42, 42]⟩), 42, "", #[], none⟩) <|
    .rd (some 5) none none (.mv (.tmp 35)) <|
    .done) <|
  .skip) <|
  .reg <| .rd (some 14) none none (.mv (.tmp 6)) <|
    .rd (some 15) none none (.bin .add (.tmp 14) (.const (.int .i64 1))) <|
    .rd (some 6) none none (.mv (.tmp 15)) <|
    .done
def F24 : MF := ⟨37, [(4, none)],
  .seq (.reg <| .ef (some 3) none 0 (.bx 25 2 (.tmp 1)) <|
    .rd (some 4) none none (.mv (.const (.slice none 0 0))) <|
    .done) <|
  .seq (.reg <| .rd (some 5) none none (.mv (.const (.slice none 0 0))) <|
    .done) <|
  .seq (.seq (.reg <| .rd (some 6) none none (.mv (.const (.int .i64 0))) <|
    .done) <|
  .block 0 <|
  .loop F24b0) <|
  .seq (.reg <| .rd (some 36) none none (.mv (.tmp 5)) <|
    .rd (some 4) none none (.mv (.tmp 36)) <|
    .done) <|
  .ret⟩
def F24.k : List Nat := [0, 1, 3, 4, 5, 6, 13, 25]
theorem F24.ok : trF Try.prog 24 = some F24 := by kernel_rfl

/- dovecote.dovecoteref10.Right -/
abbrev F25b0 : MC :=
  .seq (.seq (.reg <| .rd (some 42) none none (.mv (.tmp 4)) <|
    .rd (some 43) none none (.mv (.tmp 3)) <|
    .rd (some 44) none none (.bin .lss (.tmp 42) (.tmp 43)) <|
    .done) <|
  .cond (.tmp 44) (.skip) <|
  .exit 2) <|
  .seq (.block 3 <|
  .seq (.reg <| .rd (some 47) none none (.mv (.tmp 0)) <|
    .rd (some 48) none none (.mv (.tmp 4)) <|
    .rd (some 49) none none (.ia 3 (.tmp 47) (.tmp 48)) <|
    .rd (some 50) none none (.fa 0 (.tmp 49)) <|
    .rd (some 51) none (some 0) (.ld none (.tmp 50)) <|
    .rd (some 52) none none (.mv (.tmp 0)) <|
    .rd (some 53) none none (.mv (.tmp 3)) <|
    .rd (some 54) none none (.ia 3 (.tmp 52) (.tmp 53)) <|
    .rd (some 55) none none (.fa 0 (.tmp 54)) <|
    .rd (some 56) none (some 0) (.ld none (.tmp 55)) <|
    .rd (some 57) none none (.bin .eql (.tmp 51) (.tmp 56)) <|
    .done) <|
  .cond (.tmp 57) (.seq (.reg <| .rd (some 2) none none (.mv (.const (.bool false))) <|
    .done) <|
  .ret) <|
  .skip) <|
  .reg <| .rd (some 45) none none (.mv (.tmp 4)) <|
    .rd (some 46) none none (.bin .add (.tmp 45) (.const (.int .i64 1))) <|
    .rd (some 4) none none (.mv (.tmp 46)) <|
    .done
abbrev F25b1 : MC :=
  .seq (.seq (.reg <| .rd (some 5) none none (.mv (.tmp 3)) <|
    .rd (some 6) none none (.mv (.tmp 0)) <|
    .rd (some 7) none none (.len (.tmp 6)) <|
    .rd (some 8) none none (.bin .lss (.tmp 5) (.tmp 7)) <|
    .done) <|
  .cond (.tmp 8) (.skip) <|
  .exit 0) <|
  .seq (.block 1 <|
  .seq (.seq (.reg <| .rd (some 11) none none (.mv (.tmp 0)) <|
    .rd (some 12) none none (.mv (.tmp 3)) <|
    .rd (some 13) none none (.ia 3 (.tmp 11) (.tmp 12)) <|
    .rd (some 14) none none (.fa 0 (.tmp 13)) <|
    .rd (some 15) none none (.ld none (.tmp 14)) <|
    .ef (some 16) none 0 (.cl 43 [(.tmp 15)]) <|
    .rd (some 17) none none (.un .not (.tmp 16)) <|
    .rd (some 18) none none (.mv (.tmp 17)) <|
    .rd (some 19) (some (18, false)) none (.mv (.tmp 0)) <|
    .rd (some 20) (some (18, false)) none (.mv (.tmp 3)) <|
    .rd (some 21) (some (18, false)) none (.ia 3 (.tmp 19) (.tmp 20)) <|
    .rd (some 22) (some (18, false)) none (.fa 1 (.tmp 21)) <|
    .rd (some 23) (some (18, false)) none (.ld none (.tmp 22)) <|
    .rd (some 24) (some (18, false)) none (.slen (.tmp 23)) <|
    .rd (some 25) (some (18, false)) none (.bin .gtr (.tmp 24) (.const (.int .i64 256))) <|
    .rd (some 26) none none (.pick (.tmp 18) (.const (.bool true)) (.tmp 25)) <|
    .rd (some 27) none none (.mv (.tmp 26)) <|
    .rd (some 28) (some (27, false)) none (.mv (.tmp 0)) <|
    .rd (some 29) (some (27, false)) none (.mv (.tmp 3)) <|
    .rd (some 30) (some (27, false)) none (.ia 3 (.tmp 28) (.tmp 29)) <|
    .rd (some 31) (some (27, false)) none (.fa 2 (.tmp 30)) <|
    .rd (some 32) (some (27, false)) none (.ld none (.tmp 31)) <|
    .rd (some 33) (some (27, false)) none (.mv (.tmp 32)) <|
    .rd (some 34) (some (33, true)) none (.mv (.tmp 0)) <|
    .rd (some 35) (some (33, true)) none (.mv (.tmp 3)) <|
    .rd (some 36) (some (33, true)) none (.ia 3 (.tmp 34) (.tmp 35)) <|
    .rd (some 37) (some (33, true)) none (.fa 1 (.tmp 36)) <|
    .rd (some 38) (some (33, true)) none (.ld none (.tmp 37)) <|
    .rd (some 39) (some (33, true)) none (.bin .neq (.tmp 38) (.const (.string ⟨#[]⟩))) <|
    .rd (some 40) (some (27, false)) none (.pick (.tmp 33) (.tmp 39) (.const (.bool false))) <|
    .rd (some 41) none none (.pick (.tmp 27) (.const (.bool true)) (.tmp 40)) <|
    .done) <|
  .cond (.tmp 41) (.seq (.reg <| .rd (some 2) none none (.mv (.const (.bool false))) <|
    .done) <|
  .ret) <|
  .skip) <|
  .seq (.reg <| .rd (some 4) none none (.mv (.const (.int .i64 0))) <|
    .done) <|
  .block 2 <|
  .loop F25b0) <|
  .reg <| .rd (some 9) none none (.mv (.tmp 3)) <|
    .rd (some 10) none none (.bin .add (.tmp 9) (.const (.int .i64 1))) <|
    .rd (some 3) none none (.mv (.tmp 10)) <|
    .done
def F25 : MF := ⟨66, [(2, none)],
  .seq (.reg <| .rd (some 2) none none (.mv (.const (.bool false))) <|
    .done) <|
  .seq (.seq (.reg <| .rd (some 3) none none (.mv (.const (.int .i64 0))) <|
    .done) <|
  .block 0 <|
  .loop F25b1) <|
  .seq (.reg <| .rd (some 58) none none (.mv (.tmp 0)) <|
    .rd (some 59) none none (.len (.tmp 58)) <|
    .rd (some 60) none none (.bin .geq (.tmp 59) (.const (.int .i64 1))) <|
    .rd (some 61) none none (.mv (.tmp 60)) <|
    .rd (some 62) (some (61, true)) none (.mv (.tmp 0)) <|
    .rd (some 63) (some (61, true)) none (.len (.tmp 62)) <|
    .rd (some 64) (some (61, true)) none (.bin .leq (.tmp 63) (.const (.int .i64 16))) <|
    .rd (some 65) none none (.pick (.tmp 61) (.tmp 64) (.const (.bool false))) <|
    .rd (some 2) none none (.mv (.tmp 65)) <|
    .done) <|
  .ret⟩
def F25.k : List Nat := [0, 2, 3, 4, 8, 41, 44, 57]
theorem F25.ok : trF Try.prog 25 = some F25 := by kernel_rfl

/- dovecote.dovecoteref01.Right -/
def F42 : MF := ⟨11, [(2, none)],
  .seq (.reg <| .ef (some 1) none 0 (.bx 28 2 (.tmp 0)) <|
    .rd (some 2) none none (.mv (.const (.bool false))) <|
    .done) <|
  .seq (.reg <| .rd (some 3) none none (.fa 0 (.tmp 1)) <|
    .rd (some 4) none none (.ld none (.tmp 3)) <|
    .rd (some 5) none none (.bin .leq (.tmp 4) (.const (.int .u64 281474976710656))) <|
    .rd (some 6) none none (.mv (.tmp 5)) <|
    .rd (some 7) (some (6, true)) none (.fa 1 (.tmp 1)) <|
    .rd (some 8) (some (6, true)) none (.ld none (.tmp 7)) <|
    .rd (some 9) (some (6, true)) none (.bin .leq (.tmp 8) (.const (.int .u32 4095))) <|
    .rd (some 10) none none (.pick (.tmp 6) (.tmp 9) (.const (.bool false))) <|
    .rd (some 2) none none (.mv (.tmp 10)) <|
    .done) <|
  .ret⟩
def F42.k : List Nat := [0, 1, 2]
theorem F42.ok : trF Try.prog 42 = some F42 := by kernel_rfl

/- dovecote.dovecoteref09.Key -/
def F43 : MF := ⟨11, [(2, none)],
  .seq (.reg <| .rd (some 2) none none (.mv (.const (.bool false))) <|
    .done) <|
  .seq (.reg <| .rd (some 3) none none (.mv (.tmp 0)) <|
    .rd (some 4) none none (.slen (.tmp 3)) <|
    .rd (some 5) none none (.bin .geq (.tmp 4) (.const (.int .i64 1))) <|
    .rd (some 6) none none (.mv (.tmp 5)) <|
    .rd (some 7) (some (6, true)) none (.mv (.tmp 0)) <|
    .rd (some 8) (some (6, true)) none (.slen (.tmp 7)) <|
    .rd (some 9) (some (6, true)) none (.bin .leq (.tmp 8) (.const (.int .i64 32))) <|
    .rd (some 10) none none (.pick (.tmp 6) (.tmp 9) (.const (.bool false))) <|
    .rd (some 2) none none (.mv (.tmp 10)) <|
    .done) <|
  .ret⟩
def F43.k : List Nat := [0, 2]
theorem F43.ok : trF Try.prog 43 = some F43 := by kernel_rfl

/- (*dovecote.dovecoteref10.Table).put -/
abbrev F44b0 : MC :=
  .seq (.seq (.reg <| .rd (some 6) none none (.mv (.tmp 4)) <|
    .rd (some 7) none none (.mv (.tmp 0)) <|
    .rd (some 8) none none (.nz (.tmp 7)) <|
    .rd (some 9) none none (.fa 0 (.tmp 8)) <|
    .rd (some 10) none (some 0) (.ld none (.tmp 9)) <|
    .rd (some 11) none none (.len (.tmp 10)) <|
    .rd (some 12) none none (.bin .lss (.tmp 6) (.tmp 11)) <|
    .rd (some 13) none none (.mv (.tmp 12)) <|
    .rd (some 14) (some (13, true)) none (.mv (.tmp 0)) <|
    .rd (some 15) (some (13, true)) none (.nz (.tmp 14)) <|
    .rd (some 16) (some (13, true)) none (.fa 0 (.tmp 15)) <|
    .rd (some 17) (some (13, true)) (some 0) (.ld none (.tmp 16)) <|
    .rd (some 18) (some (13, true)) none (.mv (.tmp 4)) <|
    .rd (some 19) (some (13, true)) none (.ia 10 (.tmp 17) (.tmp 18)) <|
    .rd (some 20) (some (13, true)) none (.fa 7 (.tmp 19)) <|
    .rd (some 21) (some (13, true)) none (.fa 0 (.tmp 20)) <|
    .rd (some 22) (some (13, true)) (some 0) (.ld none (.tmp 21)) <|
    .rd (some 23) (some (13, true)) none (.fa 7 (.tmp 3)) <|
    .rd (some 24) (some (13, true)) none (.fa 0 (.tmp 23)) <|
    .rd (some 25) (some (13, true)) (some 0) (.ld none (.tmp 24)) <|
    .rd (some 26) (some (13, true)) none (.bin .lss (.tmp 22) (.tmp 25)) <|
    .rd (some 27) none none (.pick (.tmp 13) (.tmp 26) (.const (.bool false))) <|
    .done) <|
  .cond (.tmp 27) (.skip) <|
  .exit 0) <|
  .block 1 <|
  .reg <| .rd (some 28) none none (.mv (.tmp 4)) <|
    .rd (some 29) none none (.bin .add (.tmp 28) (.const (.int .i64 1))) <|
    .rd (some 4) none none (.mv (.tmp 29)) <|
    .done
def F44 : MF := ⟨53, [],
  .seq (.reg <| .ef (some 3) none 0 (.bx 41 10 (.tmp 1)) <|
    .done) <|
  .seq (.reg <| .rd (some 4) none none (.mv (.const (.int .i64 0))) <|
    .done) <|
  .seq (.block 0 <|
  .loop F44b0) <|
  .seq (.reg <| .rd (some 5) none none (.mv (.const (.slice none 0 0))) <|
    .done) <|
  .seq (.reg <| .rd (some 30) none none (.mv (.tmp 5)) <|
    .rd (some 31) none none (.mv (.tmp 0)) <|
    .rd (some 32) none none (.nz (.tmp 31)) <|
    .rd (some 33) none none (.fa 0 (.tmp 32)) <|
    .rd (some 34) none none (.ld none (.tmp 33)) <|
    .rd (some 35) none none (.mv (.tmp 4)) <|
    .rd (some 36) none none (.slc 10 (.tmp 34) none (some (.tmp 35))) <|
    .ef (some 37) none 0 (.raw ⟨none, (.call ⟨(.builtin .append), #[(.tmp 30), (.tmp 36)], #[42, 42]⟩), 42, "", #[], none⟩) <|
    .rd (some 5) none none (.mv (.tmp 37)) <|
    .done) <|
  .seq (.reg <| .rd (some 38) none none (.mv (.tmp 5)) <|
    .rd (some 39) none none (.ld (some 10) (.tmp 3)) <|
    .ef (some 40) none 0 (.raw ⟨none, (.buildSlice 42 1 #[(0, (.tmp 39))]), 42, "", #[], none⟩) <|
    .ef (some 41) none 0 (.raw ⟨none, (.call ⟨(.builtin .append), #[(.tmp 38), (.tmp 40)], #[42, 42]⟩), 42, "", #[], none⟩) <|
    .rd (some 5) none none (.mv (.tmp 41)) <|
    .done) <|
  .reg <| .rd (some 42) none none (.mv (.tmp 0)) <|
    .rd (some 43) none none (.mv (.tmp 5)) <|
    .rd (some 44) none none (.mv (.tmp 0)) <|
    .rd (some 45) none none (.nz (.tmp 44)) <|
    .rd (some 46) none none (.fa 0 (.tmp 45)) <|
    .rd (some 47) none none (.ld none (.tmp 46)) <|
    .rd (some 48) none none (.mv (.tmp 4)) <|
    .rd (some 49) none none (.slc 10 (.tmp 47) (some (.tmp 48)) none) <|
    .ef (some 50) none 0 (.raw ⟨none, (.call ⟨(.builtin .append), #[(.tmp 43), (.tmp 49)], #[42, 42]⟩), 42, "", #[], none⟩) <|
    .rd (some 51) none none (.nz (.tmp 42)) <|
    .rd (some 52) none none (.fa 0 (.tmp 51)) <|
    .ef none none 0 (.st 1 (.tmp 52) (.tmp 50)) <|
    .done⟩
def F44.k : List Nat := [0, 1, 3, 4, 5, 27]
theorem F44.ok : trF Try.prog 44 = some F44 := by kernel_rfl

/- dovecote.dovecoteref01.Max -/
def F45 : MF := ⟨10, [(4, (some (some 2)))],
  .seq (.reg <| .ef (some 2) none 0 (.bx 28 2 (.tmp 0)) <|
    .ef (some 3) none 0 (.bx 28 2 (.tmp 1)) <|
    .ef (some 4) none 0 (.al 28 [(.int .u64 0), (.int .u32 0)]) <|
    .done) <|
  .seq (.seq (.reg <| .rd (some 5) none none (.ld (some 2) (.tmp 2)) <|
    .rd (some 6) none none (.ld (some 2) (.tmp 3)) <|
    .ef (some 7) none 0 (.cl 46 [(.tmp 5), (.tmp 6)]) <|
    .done) <|
  .cond (.tmp 7) (.seq (.reg <| .rd (some 8) none none (.ld (some 2) (.tmp 3)) <|
    .ef none none 0 (.st 2 (.tmp 4) (.tmp 8)) <|
    .done) <|
  .ret) <|
  .skip) <|
  .seq (.reg <| .rd (some 9) none none (.ld (some 2) (.tmp 2)) <|
    .ef none none 0 (.st 2 (.tmp 4) (.tmp 9)) <|
    .done) <|
  .ret⟩
def F45.k : List Nat := [0, 1, 2, 3, 4, 7]
theorem F45.ok : trF Try.prog 45 = some F45 := by kernel_rfl

/- dovecote.dovecoteref01.Less -/
def F46 : MF := ⟨24, [(4, none)],
  .seq (.reg <| .ef (some 2) none 0 (.bx 28 2 (.tmp 0)) <|
    .ef (some 3) none 0 (.bx 28 2 (.tmp 1)) <|
    .rd (some 4) none none (.mv (.const (.bool false))) <|
    .done) <|
  .seq (.reg <| .rd (some 5) none none (.fa 0 (.tmp 2)) <|
    .rd (some 6) none none (.ld none (.tmp 5)) <|
    .rd (some 7) none none (.fa 0 (.tmp 3)) <|
    .rd (some 8) none none (.ld none (.tmp 7)) <|
    .rd (some 9) none none (.bin .lss (.tmp 6) (.tmp 8)) <|
    .rd (some 10) none none (.mv (.tmp 9)) <|
    .rd (some 11) (some (10, false)) none (.fa 0 (.tmp 2)) <|
    .rd (some 12) (some (10, false)) none (.ld none (.tmp 11)) <|
    .rd (some 13) (some (10, false)) none (.fa 0 (.tmp 3)) <|
    .rd (some 14) (some (10, false)) none (.ld none (.tmp 13)) <|
    .rd (some 15) (some (10, false)) none (.bin .eql (.tmp 12) (.tmp 14)) <|
    .rd (some 16) (some (10, false)) none (.mv (.tmp 15)) <|
    .rd (some 17) (some (16, true)) none (.fa 1 (.tmp 2)) <|
    .rd (some 18) (some (16, true)) none (.ld none (.tmp 17)) <|
    .rd (some 19) (some (16, true)) none (.fa 1 (.tmp 3)) <|
    .rd (some 20) (some (16, true)) none (.ld none (.tmp 19)) <|
    .rd (some 21) (some (16, true)) none (.bin .lss (.tmp 18) (.tmp 20)) <|
    .rd (some 22) (some (10, false)) none (.pick (.tmp 16) (.tmp 21) (.const (.bool false))) <|
    .rd (some 23) none none (.pick (.tmp 10) (.const (.bool true)) (.tmp 22)) <|
    .rd (some 4) none none (.mv (.tmp 23)) <|
    .done) <|
  .ret⟩
def F46.k : List Nat := [0, 1, 2, 3, 4]
theorem F46.ok : trF Try.prog 46 = some F46 := by kernel_rfl

/- dovecote.dovecoteref10.among -/
abbrev F47b0 : MC :=
  .seq (.seq (.reg <| .rd (some 6) none none (.mv (.tmp 5)) <|
    .rd (some 7) none none (.mv (.tmp 0)) <|
    .rd (some 8) none none (.len (.tmp 7)) <|
    .rd (some 9) none none (.bin .lss (.tmp 6) (.tmp 8)) <|
    .done) <|
  .cond (.tmp 9) (.skip) <|
  .exit 0) <|
  .seq (.block 1 <|
  .seq (.reg <| .rd (some 12) none none (.mv (.tmp 0)) <|
    .rd (some 13) none none (.mv (.tmp 5)) <|
    .rd (some 14) none none (.ia 2 (.tmp 12) (.tmp 13)) <|
    .rd (some 15) none (some 0) (.ld (some 2) (.tmp 14)) <|
    .rd (some 16) none (some 0) (.ld (some 2) (.tmp 3)) <|
    .rd (some 17) none none (.eqs false [(.int .u32), (.int .u32)] (.tmp 15) (.tmp 16)) <|
    .done) <|
  .cond (.tmp 17) (.seq (.reg <| .rd (some 4) none none (.mv (.const (.bool true))) <|
    .done) <|
  .ret) <|
  .skip) <|
  .reg <| .rd (some 10) none none (.mv (.tmp 5)) <|
    .rd (some 11) none none (.bin .add (.tmp 10) (.const (.int .i64 1))) <|
    .rd (some 5) none none (.mv (.tmp 11)) <|
    .done
def F47 : MF := ⟨18, [(4, none)],
  .seq (.reg <| .ef (some 3) none 0 (.bx 25 2 (.tmp 1)) <|
    .rd (some 4) none none (.mv (.const (.bool false))) <|
    .done) <|
  .seq (.seq (.reg <| .rd (some 5) none none (.mv (.const (.int .i64 0))) <|
    .done) <|
  .block 0 <|
  .loop F47b0) <|
  .seq (.reg <| .rd (some 4) none none (.mv (.const (.bool false))) <|
    .done) <|
  .ret⟩
def F47.k : List Nat := [0, 1, 3, 4, 5, 9, 17]
theorem F47.ok : trF Try.prog 47 = some F47 := by kernel_rfl

end Go.Proofs.Ythcbefkgfhokoaa

/- awake. -/
namespace Go.Proofs.Ythcbefkgfhokoaa
open Go Go.Dv
open Classical
set_option maxRecDepth 100000
attribute [local irreducible] HTh HM En Fsp TrA Cl MpA OwS RdS MpO TabA HsA TabL

theorem rds_none {R : HP} {k c : Nat} {a : Option Addr} : RdS R k (.slice a 0 c) [] := by
  unfold RdS
  exact ⟨by simp, .inl ⟨rfl, _, _, rfl⟩⟩
theorem tl1 (d : UInt8) : ByteArray.toList ⟨#[d]⟩ = [d] := by rw [ByteArray.toList_eq]
theorem slt_1 (c d : UInt8) : slt ⟨#[c]⟩ ⟨#[d]⟩ = decide (c < d) := by
  unfold slt
  rw [tl1, tl1]
  simp [Op.bytesLess]
def kA : ByteArray := ⟨#[97]⟩
def kB : ByteArray := ⟨#[98]⟩
theorem slt_ab : slt kA kB = true := by rw [kA, kB, slt_1]; decide
theorem slt_ba : slt kB kA = false := by rw [kA, kB, slt_1]; decide
theorem ne_ab : ¬ kA = kB := by decide
theorem ne_ba : ¬ kB = kA := by decide
def wA : Wr := ⟨kA, emp, false⟩
def wB : Wr := ⟨kB, emp, false⟩
def hdA : Hd := ⟨⟨5, 0⟩, ⟨6, 0⟩, kA⟩
def hdB : Hd := ⟨⟨7, 0⟩, ⟨8, 0⟩, kB⟩
def LA : List In := [mkI ⟨1, 0⟩ hdA wA, mkI ⟨1, 0⟩ hdA wB]
theorem rightA : rightL [wA, wB] = true := by decide
theorem rightB : rightL [wB] = true := by decide
theorem layA_ok : layE [] ⟨1, 0⟩ hdA [wA, wB] = 0 ∧ layL [] ⟨1, 0⟩ hdA [wA, wB] = LA := by
  have h1 : layA hdA.start hdA.min hdA.prim [wA, wB] = true := by
    unfold layA
    rw [rightA]; decide
  have h2 : layB [] ⟨1, 0⟩ [wA, wB] = false := by decide
  refine ⟨by simp [layE, h1, h2], ?_⟩
  rw [layL, h1, h2]
  show putL (putL [] (mkI ⟨1, 0⟩ hdA wA)) (mkI ⟨1, 0⟩ hdA wB) = _
  have e1 : slt (mkI ⟨1, 0⟩ hdA wA).w.key (mkI ⟨1, 0⟩ hdA wB).w.key = true := slt_ab
  simp only [putL, e1, if_true]
  rfl
theorem layB_no : layE LA ⟨2, 0⟩ hdB [wB] = 40 ∧ layL LA ⟨2, 0⟩ hdB [wB] = LA := by
  have h1 : layA hdB.start hdB.min hdB.prim [wB] = true := by
    unfold layA
    rw [rightB]; decide
  have h2 : layB LA ⟨2, 0⟩ [wB] = true := by decide
  exact ⟨by simp [layE, h1, h2], by simp [layL, h1, h2]⟩
theorem inR_emp (k : ByteArray) : inR emp emp k = true := by simp [inR, slt_emp]
theorem fst5 : fstL LA emp emp ⟨5, 0⟩ [] = none := by
  unfold fstL LA
  simp only [List.find?_cons, inR_emp, Bool.true_and]
  decide
theorem fst6 : fstL LA emp emp ⟨6, 0⟩ [] = some (mkI ⟨1, 0⟩ hdA wA) := by
  unfold fstL LA
  simp only [List.find?_cons, inR_emp, Bool.true_and]
  have : stands ⟨6, 0⟩ [] (mkI ⟨1, 0⟩ hdA wA) = true := by decide
  rw [this]

theorem awake_spec : Fsp Try.prog 8 [] [] fun u aa' => u = .bool true ∧ aa' = [] := by
  refine spec_of F8.ok rfl fun gl X => ?_
  dsimp only [List.cons_append, List.nil_append]
  (repeat (first | ((with_reducible apply t_run); exact rfl) | ((with_reducible apply t_p); exact rfl; exact rfl) | ((with_reducible apply t_gr); exact rfl) | ((with_reducible apply t_ge); exact rfl) | ((with_reducible apply t_ld); exact rfl; exact rfl; (repeat (first | with_reducible exact Pk.h | with_reducible apply Pk.t)); exact rfl) | ((with_reducible apply t_st); exact rfl; exact rfl; exact rfl; (repeat (first | with_reducible exact Pk.h | with_reducible apply Pk.t)); exact rfl; exact rfl; exact Nat.le_of_ble_eq_true rfl; exact rfl; (repeat (first | apply rk_nil | (apply rk_skip; exact rfl) | (apply rk_ld; exact rfl; (repeat (first | with_reducible exact Pk.h | with_reducible apply Pk.t)); exact rfl)))) | ((with_reducible apply t_nx F8.k); exact rfl; exact rfl) | with_reducible apply m_seq | (with_reducible apply m_reg mix) | with_reducible apply m_block | ((with_reducible apply m_ct); exact rfl) | ((with_reducible apply m_cf); exact rfl) | ((with_reducible apply m_skn); exact rfl) | ((with_reducible apply m_exn); exact rfl)))
  refine t_cl rfl rfl (New_L) (by repeat (first | apply Sx.nil | apply Pk.h | apply Sx.cons | apply Pk.t)) ?_
  rintro _ _ ⟨t, rfl, rfl⟩
  refine ⟨?_, ?_⟩ <;> (try dsimp only [List.cons_append, List.nil_append])
  · (repeat (first | apply rk_nil | (apply rk_skip; exact rfl) | (apply rk_ld; exact rfl; (repeat (first | with_reducible exact Pk.h | with_reducible apply Pk.t)); exact rfl)))
  (repeat (first | ((with_reducible apply t_run); exact rfl) | ((with_reducible apply t_p); exact rfl; exact rfl) | ((with_reducible apply t_gr); exact rfl) | ((with_reducible apply t_ge); exact rfl) | ((with_reducible apply t_ld); exact rfl; exact rfl; (repeat (first | with_reducible exact Pk.h | with_reducible apply Pk.t)); exact rfl) | ((with_reducible apply t_st); exact rfl; exact rfl; exact rfl; (repeat (first | with_reducible exact Pk.h | with_reducible apply Pk.t)); exact rfl; exact rfl; exact Nat.le_of_ble_eq_true rfl; exact rfl; (repeat (first | apply rk_nil | (apply rk_skip; exact rfl) | (apply rk_ld; exact rfl; (repeat (first | with_reducible exact Pk.h | with_reducible apply Pk.t)); exact rfl)))) | ((with_reducible apply t_nx F8.k); exact rfl; exact rfl) | with_reducible apply m_seq | (with_reducible apply m_reg mix) | with_reducible apply m_block | ((with_reducible apply m_ct); exact rfl) | ((with_reducible apply m_cf); exact rfl) | ((with_reducible apply m_skn); exact rfl) | ((with_reducible apply m_exn); exact rfl)))
  refine t_al rfl fun b2 => ⟨(by (repeat (first | apply rk_nil | (apply rk_skip; exact rfl) | (apply rk_ld; exact rfl; (repeat (first | with_reducible exact Pk.h | with_reducible apply Pk.t)); exact rfl)))), ?_⟩
  refine t_al rfl fun b3 => ⟨(by (repeat (first | apply rk_nil | (apply rk_skip; exact rfl) | (apply rk_ld; exact rfl; (repeat (first | with_reducible exact Pk.h | with_reducible apply Pk.t)); exact rfl)))), ?_⟩
  (repeat (first | ((with_reducible apply t_run); exact rfl) | ((with_reducible apply t_p); exact rfl; exact rfl) | ((with_reducible apply t_gr); exact rfl) | ((with_reducible apply t_ge); exact rfl) | ((with_reducible apply t_ld); exact rfl; exact rfl; (repeat (first | with_reducible exact Pk.h | with_reducible apply Pk.t)); exact rfl) | ((with_reducible apply t_st); exact rfl; exact rfl; exact rfl; (repeat (first | with_reducible exact Pk.h | with_reducible apply Pk.t)); exact rfl; exact rfl; exact Nat.le_of_ble_eq_true rfl; exact rfl; (repeat (first | apply rk_nil | (apply rk_skip; exact rfl) | (apply rk_ld; exact rfl; (repeat (first | with_reducible exact Pk.h | with_reducible apply Pk.t)); exact rfl)))) | ((with_reducible apply t_nx F8.k); exact rfl; exact rfl) | with_reducible apply m_seq | (with_reducible apply m_reg mix) | with_reducible apply m_block | ((with_reducible apply m_ct); exact rfl) | ((with_reducible apply m_cf); exact rfl) | ((with_reducible apply m_skn); exact rfl) | ((with_reducible apply m_exn); exact rfl)))
  refine t_bsl sl29 rfl rfl rfl rfl rfl rfl rfl rfl fun bs => ⟨(by (repeat (first | apply rk_nil | (apply rk_skip; exact rfl) | (apply rk_ld; exact rfl; (repeat (first | with_reducible exact Pk.h | with_reducible apply Pk.t)); exact rfl)))), ?_⟩
  try dsimp only [List.cons_append, List.nil_append]
  have hl1 := fun R => Lay_L R t [] ⟨1, 0⟩ hdA (.slice (some ⟨bs, 0, none⟩) 2 2) [wA, wB]
  rw [layA_ok.1, layA_ok.2] at hl1
  refine t_cl rfl rfl (hl1 (Cl bs 39 [.string kA, .string emp, .bool false, .string kB, .string emp, .bool false]) (rds_cl (b := bs) (T := 39) (k := 3) (c := 2) (xs := wcs [wA, wB]) (by simp [wcs, Wr.cells])) (by decide) (by decide) ⟨⟨by decide, by decide⟩, ⟨by decide, by decide⟩⟩ ⟨by decide, by decide⟩) (by repeat (first | apply Sx.nil | apply Pk.h | apply Sx.cons | apply Pk.t)) ?_
  rintro _ _ ⟨rfl, rfl⟩
  refine ⟨?_, ?_⟩ <;> (try dsimp only [List.cons_append, List.nil_append])
  · (repeat (first | apply rk_nil | (apply rk_skip; exact rfl) | (apply rk_ld; exact rfl; (repeat (first | with_reducible exact Pk.h | with_reducible apply Pk.t)); exact rfl)))
  (repeat (first | ((with_reducible apply t_run); exact rfl) | ((with_reducible apply t_p); exact rfl; exact rfl) | ((with_reducible apply t_gr); exact rfl) | ((with_reducible apply t_ge); exact rfl) | ((with_reducible apply t_ld); exact rfl; exact rfl; (repeat (first | with_reducible exact Pk.h | with_reducible apply Pk.t)); exact rfl) | ((with_reducible apply t_st); exact rfl; exact rfl; exact rfl; (repeat (first | with_reducible exact Pk.h | with_reducible apply Pk.t)); exact rfl; exact rfl; exact Nat.le_of_ble_eq_true rfl; exact rfl; (repeat (first | apply rk_nil | (apply rk_skip; exact rfl) | (apply rk_ld; exact rfl; (repeat (first | with_reducible exact Pk.h | with_reducible apply Pk.t)); exact rfl)))) | ((with_reducible apply t_nx F8.k); exact rfl; exact rfl) | with_reducible apply m_seq | (with_reducible apply m_reg mix) | with_reducible apply m_block | ((with_reducible apply m_ct); exact rfl) | ((with_reducible apply m_cf); exact rfl) | ((with_reducible apply m_skn); exact rfl) | ((with_reducible apply m_exn); exact rfl)))
  refine t_bsl sl29 rfl rfl rfl rfl rfl rfl rfl rfl fun bs2 => ⟨(by (repeat (first | apply rk_nil | (apply rk_skip; exact rfl) | (apply rk_ld; exact rfl; (repeat (first | with_reducible exact Pk.h | with_reducible apply Pk.t)); exact rfl)))), ?_⟩
  try dsimp only [List.cons_append, List.nil_append]
  have hl2 := fun R => Lay_L R t LA ⟨2, 0⟩ hdB (.slice (some ⟨bs2, 0, none⟩) 1 1) [wB]
  rw [layB_no.1, layB_no.2] at hl2
  refine t_cl rfl rfl (hl2 (Cl bs2 39 [.string kB, .string emp, .bool false]) (rds_cl (b := bs2) (T := 39) (k := 3) (c := 1) (xs := wcs [wB]) (by simp [wcs, Wr.cells])) (by decide) (by decide) ⟨⟨by decide, by decide⟩, ⟨by decide, by decide⟩⟩ ⟨by decide, by decide⟩) (by repeat (first | apply Sx.nil | apply Pk.h | apply Sx.cons | apply Pk.t)) ?_
  rintro _ _ ⟨rfl, rfl⟩
  refine ⟨?_, ?_⟩ <;> (try dsimp only [List.cons_append, List.nil_append])
  · (repeat (first | apply rk_nil | (apply rk_skip; exact rfl) | (apply rk_ld; exact rfl; (repeat (first | with_reducible exact Pk.h | with_reducible apply Pk.t)); exact rfl)))
  (repeat (first | ((with_reducible apply t_run); exact rfl) | ((with_reducible apply t_p); exact rfl; exact rfl) | ((with_reducible apply t_gr); exact rfl) | ((with_reducible apply t_ge); exact rfl) | ((with_reducible apply t_ld); exact rfl; exact rfl; (repeat (first | with_reducible exact Pk.h | with_reducible apply Pk.t)); exact rfl) | ((with_reducible apply t_st); exact rfl; exact rfl; exact rfl; (repeat (first | with_reducible exact Pk.h | with_reducible apply Pk.t)); exact rfl; exact rfl; exact Nat.le_of_ble_eq_true rfl; exact rfl; (repeat (first | apply rk_nil | (apply rk_skip; exact rfl) | (apply rk_ld; exact rfl; (repeat (first | with_reducible exact Pk.h | with_reducible apply Pk.t)); exact rfl)))) | ((with_reducible apply t_nx F8.k); exact rfl; exact rfl) | with_reducible apply m_seq | (with_reducible apply m_reg mix) | with_reducible apply m_block | ((with_reducible apply m_ct); exact rfl) | ((with_reducible apply m_cf); exact rfl) | ((with_reducible apply m_skn); exact rfl) | ((with_reducible apply m_exn); exact rfl)))
  have hf1 := fun R => First_L R t LA emp emp ⟨5, 0⟩ (.slice none 0 0) [] rds_none (by decide) (by decide)
  rw [fst5] at hf1
  refine t_cl rfl rfl (hf1 (Cl bs2 39 [.string kB, .string emp, .bool false])) (by repeat (first | apply Sx.nil | apply Pk.h | apply Sx.cons | apply Pk.t)) ?_
  rintro _ _ ⟨rfl, rfl⟩
  refine ⟨?_, ?_⟩ <;> (try dsimp only [List.cons_append, List.nil_append])
  · (repeat (first | apply rk_nil | (apply rk_skip; exact rfl) | (apply rk_ld; exact rfl; (repeat (first | with_reducible exact Pk.h | with_reducible apply Pk.t)); exact rfl)))
  (repeat (first | ((with_reducible apply t_run); exact rfl) | ((with_reducible apply t_p); exact rfl; exact rfl) | ((with_reducible apply t_gr); exact rfl) | ((with_reducible apply t_ge); exact rfl) | ((with_reducible apply t_ld); exact rfl; exact rfl; (repeat (first | with_reducible exact Pk.h | with_reducible apply Pk.t)); exact rfl) | ((with_reducible apply t_st); exact rfl; exact rfl; exact rfl; (repeat (first | with_reducible exact Pk.h | with_reducible apply Pk.t)); exact rfl; exact rfl; exact Nat.le_of_ble_eq_true rfl; exact rfl; (repeat (first | apply rk_nil | (apply rk_skip; exact rfl) | (apply rk_ld; exact rfl; (repeat (first | with_reducible exact Pk.h | with_reducible apply Pk.t)); exact rfl)))) | ((with_reducible apply t_nx F8.k); exact rfl; exact rfl) | with_reducible apply m_seq | (with_reducible apply m_reg mix) | with_reducible apply m_block | ((with_reducible apply m_ct); exact rfl) | ((with_reducible apply m_cf); exact rfl) | ((with_reducible apply m_skn); exact rfl) | ((with_reducible apply m_exn); exact rfl)))
  refine t_al rfl fun b6 => ⟨(by (repeat (first | apply rk_nil | (apply rk_skip; exact rfl) | (apply rk_ld; exact rfl; (repeat (first | with_reducible exact Pk.h | with_reducible apply Pk.t)); exact rfl)))), ?_⟩
  (repeat (first | ((with_reducible apply t_run); exact rfl) | ((with_reducible apply t_p); exact rfl; exact rfl) | ((with_reducible apply t_gr); exact rfl) | ((with_reducible apply t_ge); exact rfl) | ((with_reducible apply t_ld); exact rfl; exact rfl; (repeat (first | with_reducible exact Pk.h | with_reducible apply Pk.t)); exact rfl) | ((with_reducible apply t_st); exact rfl; exact rfl; exact rfl; (repeat (first | with_reducible exact Pk.h | with_reducible apply Pk.t)); exact rfl; exact rfl; exact Nat.le_of_ble_eq_true rfl; exact rfl; (repeat (first | apply rk_nil | (apply rk_skip; exact rfl) | (apply rk_ld; exact rfl; (repeat (first | with_reducible exact Pk.h | with_reducible apply Pk.t)); exact rfl)))) | ((with_reducible apply t_nx F8.k); exact rfl; exact rfl) | with_reducible apply m_seq | (with_reducible apply m_reg mix) | with_reducible apply m_block | ((with_reducible apply m_ct); exact rfl) | ((with_reducible apply m_cf); exact rfl) | ((with_reducible apply m_skn); exact rfl) | ((with_reducible apply m_exn); exact rfl)))
  have hf2 := fun R => First_L R t LA emp emp ⟨6, 0⟩ (.slice none 0 0) [] rds_none (by decide) (by decide)
  rw [fst6] at hf2
  refine t_cl rfl rfl (hf2 (Cl bs2 39 [.string kB, .string emp, .bool false])) (by repeat (first | apply Sx.nil | apply Pk.h | apply Sx.cons | apply Pk.t)) ?_
  rintro _ _ ⟨rfl, rfl⟩
  refine ⟨?_, ?_⟩ <;> (try dsimp only [List.cons_append, List.nil_append])
  · (repeat (first | apply rk_nil | (apply rk_skip; exact rfl) | (apply rk_ld; exact rfl; (repeat (first | with_reducible exact Pk.h | with_reducible apply Pk.t)); exact rfl)))
  (repeat (first | ((with_reducible apply t_run); exact rfl) | ((with_reducible apply t_p); exact rfl; exact rfl) | ((with_reducible apply t_gr); exact rfl) | ((with_reducible apply t_ge); exact rfl) | ((with_reducible apply t_ld); exact rfl; exact rfl; (repeat (first | with_reducible exact Pk.h | with_reducible apply Pk.t)); exact rfl) | ((with_reducible apply t_st); exact rfl; exact rfl; exact rfl; (repeat (first | with_reducible exact Pk.h | with_reducible apply Pk.t)); exact rfl; exact rfl; exact Nat.le_of_ble_eq_true rfl; exact rfl; (repeat (first | apply rk_nil | (apply rk_skip; exact rfl) | (apply rk_ld; exact rfl; (repeat (first | with_reducible exact Pk.h | with_reducible apply Pk.t)); exact rfl)))) | ((with_reducible apply t_nx F8.k); exact rfl; exact rfl) | with_reducible apply m_seq | (with_reducible apply m_reg mix) | with_reducible apply m_block | ((with_reducible apply m_ct); exact rfl) | ((with_reducible apply m_cf); exact rfl) | ((with_reducible apply m_skn); exact rfl) | ((with_reducible apply m_exn); exact rfl)))
  refine t_al rfl fun b8 => ⟨(by (repeat (first | apply rk_nil | (apply rk_skip; exact rfl) | (apply rk_ld; exact rfl; (repeat (first | with_reducible exact Pk.h | with_reducible apply Pk.t)); exact rfl)))), ?_⟩
  (repeat (first | ((with_reducible apply t_run); exact rfl) | ((with_reducible apply t_p); exact rfl; exact rfl) | ((with_reducible apply t_gr); exact rfl) | ((with_reducible apply t_ge); exact rfl) | ((with_reducible apply t_ld); exact rfl; exact rfl; (repeat (first | with_reducible exact Pk.h | with_reducible apply Pk.t)); exact rfl) | ((with_reducible apply t_st); exact rfl; exact rfl; exact rfl; (repeat (first | with_reducible exact Pk.h | with_reducible apply Pk.t)); exact rfl; exact rfl; exact Nat.le_of_ble_eq_true rfl; exact rfl; (repeat (first | apply rk_nil | (apply rk_skip; exact rfl) | (apply rk_ld; exact rfl; (repeat (first | with_reducible exact Pk.h | with_reducible apply Pk.t)); exact rfl)))) | ((with_reducible apply t_nx F8.k); exact rfl; exact rfl) | with_reducible apply m_seq | (with_reducible apply m_reg mix) | with_reducible apply m_block | ((with_reducible apply m_ct); exact rfl) | ((with_reducible apply m_cf); exact rfl) | ((with_reducible apply m_skn); exact rfl) | ((with_reducible apply m_exn); exact rfl)))
  apply m_ret
  · rfl
  · (repeat (first | apply rs_nil | (apply rs_tmp; exact rfl) | (apply rs_cell; exact rfl; (repeat (first | with_reducible exact Pk.h | with_reducible apply Pk.t)); exact rfl)))
  · exact ⟨rfl, rfl⟩
  · exact (by repeat (first | apply Sx.nil | apply Pk.h | apply Sx.cons | apply Pk.t))
end Go.Proofs.Ythcbefkgfhokoaa

/- The laws' arguments. -/
namespace Go.Proofs.Ythcbefkgfhokoaa
open Go Go.Dv Go.ChangeShapes Go.WideShapes Go.ChangeAt Go.RowKit
open Classical
set_option maxRecDepth 100000

theorem mapsOk : mapsRowed Try.prog = true := by kernel_rfl
theorem slPosOk : slPos Try.prog = true := by kernel_rfl
theorem own : ownKnob Try.prog.godebug = none := by kernel_rfl

structure Act where
  what : Int
  tx : Tx
  start : Sm
  min : Sm
  prim : ByteArray
  wv : Value
  ws : List Wr
  frm : ByteArray
  til : ByteArray
  bv : Value
  but : List Tx
def Act.cells (a : Act) : List Value := [.int .i64 a.what, .int .u32 a.tx.c, .int .u32 a.tx.n, .int .u64 a.start.p, .int .u32 a.start.l, .int .u64 a.min.p, .int .u32 a.min.l, .string a.prim, a.wv, .string a.frm, .string a.til, a.bv]
structure Act.ok (R : HP) (a : Act) : Prop where
  tx : a.tx.ok
  start : a.start.nn
  min : a.min.nn
  ws : RdS R 3 a.wv (wcs a.ws)
  wl : a.ws.length ≤ maxLen
  but : RdS R 2 a.bv (a.but.map Tx.cells)
  bl : a.but.length ≤ maxLen

def txSh : Sh := .st [.int .u32, .int .u32]
def smSh : Sh := .st [.int .u64, .int .u32]
def wrSh : Sh := .st [.str, .str, .bool]
def actSh : Sh := .st [.int .i64, txSh, smSh, smSh, .str, .sl 3 wrSh, .str, .str, .sl 2 txSh]
theorem sh32 : shOf Try.prog 6 32 = some actSh := by kernel_rfl

theorem rd_tx {R : HP} {x : List Value} (h : RdSh R txSh x) : ∃ t : Tx, x = t.cells ∧ t.ok := by
  obtain ⟨c1, c2, rfl, ⟨n1, rfl, w1⟩, c3, c4, rfl, ⟨n2, rfl, w2⟩, h4⟩ := h
  have : c4 = [] := h4
  subst this
  have b1 := bounds_u32 w1
  have b2 := bounds_u32 w2
  exact ⟨⟨n1, n2⟩, rfl, ⟨by dsimp only; omega, by dsimp only; omega⟩⟩
theorem rd_sm {R : HP} {x : List Value} (h : RdSh R smSh x) : ∃ t : Sm, x = t.cells ∧ t.nn := by
  obtain ⟨c1, c2, rfl, ⟨n1, rfl, w1⟩, c3, c4, rfl, ⟨n2, rfl, w2⟩, h4⟩ := h
  have : c4 = [] := h4
  subst this
  have b1 := bounds_u64 w1
  have b2 := bounds_u32 w2
  exact ⟨⟨n1, n2⟩, rfl, ⟨by dsimp only; omega, by dsimp only; omega⟩⟩
theorem rd_wr {R : HP} {x : List Value} (h : RdSh R wrSh x) : ∃ t : Wr, x = t.cells ∧ True := by
  obtain ⟨c1, c2, rfl, ⟨n1, rfl, _⟩, c3, c4, rfl, ⟨n2, rfl, _⟩, c5, c6, rfl, ⟨n3, rfl⟩, h4⟩ := h
  have : c6 = [] := h4
  subst this
  exact ⟨⟨n1, n2, n3⟩, rfl, trivial⟩
theorem rd_act {R : HP} {x : List Value} (h : RdSh R actSh x) : ∃ a : Act, x = a.cells ∧ a.ok R := by
  obtain ⟨_, _, rfl, ⟨n1, rfl, _⟩, _, _, rfl, h2, _, _, rfl, h3, _, _, rfl, h4, _, _, rfl, ⟨s5, rfl, _⟩, _, _, rfl, ⟨v6, x6, rfl, r6, l6, e6⟩, _, _, rfl, ⟨s7, rfl, _⟩, _, _, rfl, ⟨s8, rfl, _⟩, _, _, rfl, ⟨v9, x9, rfl, r9, l9, e9⟩, h10⟩ := h
  obtain ⟨t2, rfl, o2⟩ := rd_tx h2
  obtain ⟨t3, rfl, o3⟩ := rd_sm h3
  obtain ⟨t4, rfl, o4⟩ := rd_sm h4
  obtain ⟨ws, rfl, _⟩ := list_choose (f := Wr.cells) (p := fun _ => True) fun x hx => rd_wr (e6 x hx)
  obtain ⟨bt, rfl, _⟩ := list_choose (f := Tx.cells) (p := Tx.ok) fun x hx => rd_tx (e9 x hx)
  rw [show _ = _ from h10]
  refine ⟨⟨n1, t2, t3, t4, s5, v6, ws, s7, s8, v9, bt⟩, rfl, ⟨o2, o3, o4, r6, by simpa using l6, r9, by simpa using l9⟩⟩

theorem okw_slice {P : Program} {W : World} {r : Reach} {b t e : Nat} {v : Value} (hu : P.underlying t = some (.slice e)) (h : Value.okWide P W r b t v) : ∃ a l c, v = .slice a l c := by
  simp only [Value.okWide, hu, Cell.okWide] at h
  cases v <;> simp [Cell.ok, hu] at h
  exact ⟨_, _, _, rfl⟩
theorem okw_struct {P : Program} {W : World} {r : Reach} {b t : Nat} {fs : Array Field} {v : Value} (hu : P.underlying t = some (.struct fs)) (h : Value.okWide P W r b t v) : ∃ cs, v = .agg cs := by
  simp only [Value.okWide, hu] at h
  obtain ⟨cs, rfl, _⟩ := h
  exact ⟨cs, rfl⟩
theorem act_arg {W : World} {r : Reach} {b : Nat} {v : Value} {H : Type} {enc : TypeId × Value → H} {sp : Nat → Bool} {held : Bool} {d : DataW H} {ps : List MemPlace} (h : Value.okWide Try.prog W r b 32 v) (ht : DataW.Trod enc Try.prog W 0 sp held 32 v d ps) :
    ∃ a : Act, v = .agg a.cells.toArray ∧ a.ok (Old W) := by
  obtain ⟨fuel, ht⟩ := ht
  have h32 : (32 : Nat) < Try.prog.types.size := of_decide_eq_true (by kernel_rfl)
  have h2 : (match Try.prog.underlying 32 with | some (.struct _) => true | _ => false) = true := by kernel_rfl
  split at h2
  · rename_i fs hu
    obtain ⟨cs, rfl⟩ := okw_struct hu h
    obtain ⟨a, ha, hok⟩ := rd_act (rdsh_of laidOut 6 32 actSh fuel _ _ h32 sh32 ht)
    exact ⟨a, by rw [← ha]; rfl, hok⟩
  · cases h2
end Go.Proofs.Ythcbefkgfhokoaa

/- The laws' plain facts: what is laid; how much there is. -/
namespace Go.Proofs.Ythcbefkgfhokoaa
open Go Go.Dv
open Classical
set_option maxRecDepth 100000

/-- what the laws hold of a table: keys that may be, so many at most -/
structure Good (L : List In) (n : Nat) : Prop where
  key : ∀ y ∈ L, keyR y.w.key = true
  len : L.length ≤ n

theorem okW_key {n : Nat} {w : Wr} (h : okW n w = true) : keyR w.key = true := by
  simp only [okW, Bool.and_eq_true] at h
  exact h.1.1.2
theorem goR_key {n : Nat} : ∀ (ws : List Wr) (seen : List ByteArray), goR n seen ws = true → ∀ w ∈ ws, keyR w.key = true
  | [], _, _, w, hw => by cases hw
  | v :: ws, seen, h, w, hw => by
    simp only [goR] at h
    split at h
    · rename_i hc
      simp only [Bool.and_eq_true] at hc
      rcases List.mem_cons.1 hw with rfl | hw
      · exact okW_key hc.1
      · exact goR_key ws _ h w hw
    · cases h
theorem rightL_key {ws : List Wr} (h : rightL ws = true) : ∀ w ∈ ws, keyR w.key = true := by
  simp only [rightL, Bool.and_eq_true] at h
  exact goR_key ws [] h.1
theorem layF_mem (tx : Tx) (hd : Hd) : ∀ (ws : List Wr) (L : List In) (y : In), y ∈ layF tx hd L ws ↔ (∃ w ∈ ws, y = mkI tx hd w) ∨ y ∈ L
  | [], L, y => by simp [layF]
  | w :: ws, L, y => by
    show y ∈ layF tx hd (putL L (mkI tx hd w)) ws ↔ _
    rw [layF_mem tx hd ws, put_mem]
    simp only [List.mem_cons, exists_eq_or_imp]
    constructor
    · rintro (h | h | h)
      · exact .inl (.inr h)
      · exact .inl (.inl h)
      · exact .inr h
    · rintro ((h | h) | h)
      · exact .inr (.inl h)
      · exact .inl h
      · exact .inr (.inr h)
theorem putL_len (L : List In) (x : In) : (putL L x).length = L.length + 1 := by rw [(put_perm L x).length_eq]; rfl
theorem layF_len (tx : Tx) (hd : Hd) : ∀ (ws : List Wr) (L : List In), (layF tx hd L ws).length = L.length + ws.length
  | [], L => rfl
  | w :: ws, L => by
    show (layF tx hd (putL L (mkI tx hd w)) ws).length = _
    rw [layF_len tx hd ws, putL_len]
    simp; omega
theorem layA_right {st mn : Sm} {pr : ByteArray} {ws : List Wr} (h : layA st mn pr ws = true) : rightL ws = true := by
  simp only [layA, Bool.and_eq_true] at h
  exact h.1.1.1
theorem good_lay {L : List In} {n : Nat} (h : Good L n) (tx : Tx) (hd : Hd) (ws : List Wr) : Good (layL L tx hd ws) (n + 16) := by
  unfold layL
  split
  · rename_i hA
    split
    · exact ⟨h.key, by have := h.len; omega⟩
    · have hr := layA_right hA
      refine ⟨?_, ?_⟩
      · intro y hy
        rcases (layF_mem tx hd ws L y).1 hy with ⟨w, hw, rfl⟩ | hy
        · exact rightL_key hr w hw
        · exact h.key y hy
      · rw [layF_len]
        have := (rightL_ok hr).2.1
        have := h.len
        omega
  · exact ⟨h.key, by have := h.len; omega⟩
theorem good_mono {L : List In} {n m : Nat} (h : Good L n) (hm : n ≤ m) : Good L m := ⟨h.key, by have := h.len; omega⟩
theorem good_cut {L : List In} {n : Nat} (h : Good L n) (tx : Tx) : Good (cutL L tx) n := ⟨fun y hy => h.key y (List.mem_filter.1 hy).1, by have := h.len; have := List.length_filter_le (fun y : In => !eqT y.tx tx) L; exact Nat.le_trans this h.len⟩
theorem good_raise {L : List In} {n : Nat} (h : Good L n) (tx : Tx) (s : Sm) : Good (raiseL L tx s) n := by
  refine ⟨fun y hy => ?_, by rw [raiseL, List.length_map]; exact h.len⟩
  obtain ⟨z, hz, rfl⟩ := List.mem_map.1 hy
  rw [(raise_key tx s z).1]
  exact h.key z hz
theorem emp_lt {k : ByteArray} (h : keyR k = true) : slt emp k = true := by
  rcases slt_tri emp k with h1 | h1 | h1
  · exact h1
  · subst h1; revert h; decide
  · rw [slt_emp] at h1; cases h1

/-- stamps, as the statements compare them -/
theorem lt_plain (a b : Sm) : a.lt b = (decide (a.p < b.p) || (decide (a.p = b.p) && decide (a.l < b.l))) := by
  obtain ⟨p, l⟩ := a
  obtain ⟨p', l'⟩ := b
  simp only [Sm.lt, orI, cmpI]
  by_cases h1 : p < p'
  · simp [h1]
  · by_cases h2 : p' < p
    · have h3 : ¬ p = p' := by omega
      simp [h1, h2, h3]
    · have h3 : p = p' := by omega
      subst h3
      by_cases h4 : l < l'
      · simp [h4]
      · by_cases h5 : l' < l
        · simp [h4, h5]
        · simp [h4, h5]
theorem nlt_plain (q m : Sm) : (!q.lt m) = (decide (m.p < q.p) || (decide (m.p = q.p) && decide (m.l ≤ q.l))) := by
  rw [lt_plain]
  by_cases h1 : q.p < m.p
  · have h2 : ¬ m.p < q.p := by omega
    have h3 : ¬ m.p = q.p := by omega
    simp [h1, h2, h3]
  · by_cases h2 : m.p < q.p
    · have h3 : ¬ q.p = m.p := by omega
      simp [h1, h2, h3]
    · have h3 : q.p = m.p := by omega
      have h4 : m.p = q.p := h3.symm
      by_cases h5 : q.l < m.l
      · have h6 : ¬ m.l ≤ q.l := by omega
        simp [h3, h5, h6]
      · have h6 : m.l ≤ q.l := by omega
        simp [h3, h5, h6]
theorem tabL_srt {t : Nat} {L : List In} : ∀ h, TabL t L h → SrtI L := by
  unfold TabL
  rintro h ⟨x, I, _⟩
  exact I.srt
def acs (l : List Act) : List (List Value) := l.map Act.cells
theorem acts_arg {W : World} {r : Reach} {b : Nat} {v : Value} {H : Type} {enc : TypeId × Value → H} {sp : Nat → Bool} {held : Bool} {d : DataW H} {ps : List MemPlace} (h : Value.okWide Try.prog W r b 22 v) (ht : DataW.Trod enc Try.prog W 0 sp held 22 v d ps) :
    ∃ acts : List Act, RdS (Old W) 12 v (acs acts) ∧ acts.length ≤ maxLen ∧ ∀ a ∈ acts, a.ok (Old W) := by
  obtain ⟨fuel, ht⟩ := ht
  have h33 : (22 : Nat) < Try.prog.types.size := of_decide_eq_true (by kernel_rfl)
  have hs : shOf Try.prog 7 22 = some (.sl 12 actSh) := by kernel_rfl
  obtain ⟨a, l, c, rfl⟩ := okw_slice (e := 32) (by kernel_rfl) h
  obtain ⟨v, xs, hv, hr, hl, he⟩ := rdsh_of laidOut 7 22 _ fuel _ _ h33 hs ht
  obtain ⟨acts, rfl, hok⟩ := list_choose (f := Act.cells) (p := fun a => a.ok (Old W)) fun x hx => rd_act (he x hx)
  have hv' : v = .slice a l c := by
    have := congrArg (·[0]?) hv
    simpa [Value.cells] using this.symm
  subst hv'
  exact ⟨acts, hr, by simpa using hl, hok⟩
end Go.Proofs.Ythcbefkgfhokoaa

/- The document's answer: its small functions. -/
namespace Go.Proofs.Ythcbefkgfhokoaa
open Go Go.Dv
open Classical
set_option maxRecDepth 100000
attribute [local irreducible] HTh HM En Fsp TrA Cl MpA OwS RdS MpO TabA HsA TabL Old

theorem RRight01_spec (t : Sm) : Fsp Try.prog 42 [t.V] [] fun u aa' => u = .bool t.ok ∧ aa' = [] := by
  obtain ⟨p, l⟩ := t
  refine spec_of F42.ok rfl fun gl X => ?_
  dsimp only [List.cons_append, List.nil_append]
  simp only [Sm.V]
  (repeat (first | ((with_reducible apply t_run); exact rfl) | ((with_reducible apply t_p); exact rfl; exact rfl) | ((with_reducible apply t_gr); exact rfl) | ((with_reducible apply t_ge); exact rfl) | ((with_reducible apply t_ld); exact rfl; exact rfl; (repeat (first | with_reducible exact Pk.h | with_reducible apply Pk.t)); exact rfl) | ((with_reducible apply t_st); exact rfl; exact rfl; exact rfl; (repeat (first | with_reducible exact Pk.h | with_reducible apply Pk.t)); exact rfl; exact rfl; exact Nat.le_of_ble_eq_true rfl; exact rfl; (repeat (first | apply rk_nil | (apply rk_skip; exact rfl) | (apply rk_ld; exact rfl; (repeat (first | with_reducible exact Pk.h | with_reducible apply Pk.t)); exact rfl)))) | ((with_reducible apply t_nx F42.k); exact rfl; exact rfl) | with_reducible apply m_seq | (with_reducible apply m_reg mix) | with_reducible apply m_block | ((with_reducible apply m_ct); exact rfl) | ((with_reducible apply m_cf); exact rfl) | ((with_reducible apply m_skn); exact rfl) | ((with_reducible apply m_exn); exact rfl)))
  refine t_bx rfl rfl rfl fun b1 => ⟨(by (repeat (first | apply rk_nil | (apply rk_skip; exact rfl) | (apply rk_ld; exact rfl; (repeat (first | with_reducible exact Pk.h | with_reducible apply Pk.t)); exact rfl)))), ?_⟩
  try dsimp only [List.cons_append, List.nil_append]
  (repeat (first | ((with_reducible apply t_run); exact rfl) | ((with_reducible apply t_p); exact rfl; exact rfl) | ((with_reducible apply t_gr); exact rfl) | ((with_reducible apply t_ge); exact rfl) | ((with_reducible apply t_ld); exact rfl; exact rfl; (repeat (first | with_reducible exact Pk.h | with_reducible apply Pk.t)); exact rfl) | ((with_reducible apply t_st); exact rfl; exact rfl; exact rfl; (repeat (first | with_reducible exact Pk.h | with_reducible apply Pk.t)); exact rfl; exact rfl; exact Nat.le_of_ble_eq_true rfl; exact rfl; (repeat (first | apply rk_nil | (apply rk_skip; exact rfl) | (apply rk_ld; exact rfl; (repeat (first | with_reducible exact Pk.h | with_reducible apply Pk.t)); exact rfl)))) | ((with_reducible apply t_nx F42.k); exact rfl; exact rfl) | with_reducible apply m_seq | (with_reducible apply m_reg mix) | with_reducible apply m_block | ((with_reducible apply m_ct); exact rfl) | ((with_reducible apply m_cf); exact rfl) | ((with_reducible apply m_skn); exact rfl) | ((with_reducible apply m_exn); exact rfl)))
  refine t_spl 6 rfl (fun q1 => ?_) (fun q1 => ?_)
  · (repeat (first | ((with_reducible apply t_run); exact rfl) | ((with_reducible apply t_p); exact rfl; exact rfl) | ((with_reducible apply t_gr); exact rfl) | ((with_reducible apply t_ge); exact rfl) | ((with_reducible apply t_ld); exact rfl; exact rfl; (repeat (first | with_reducible exact Pk.h | with_reducible apply Pk.t)); exact rfl) | ((with_reducible apply t_st); exact rfl; exact rfl; exact rfl; (repeat (first | with_reducible exact Pk.h | with_reducible apply Pk.t)); exact rfl; exact rfl; exact Nat.le_of_ble_eq_true rfl; exact rfl; (repeat (first | apply rk_nil | (apply rk_skip; exact rfl) | (apply rk_ld; exact rfl; (repeat (first | with_reducible exact Pk.h | with_reducible apply Pk.t)); exact rfl)))) | ((with_reducible apply t_nx F42.k); exact rfl; exact rfl) | with_reducible apply m_seq | (with_reducible apply m_reg mix) | with_reducible apply m_block | ((with_reducible apply m_ct); exact rfl) | ((with_reducible apply m_cf); exact rfl) | ((with_reducible apply m_skn); exact rfl) | ((with_reducible apply m_exn); exact rfl)))
    apply m_ret
    · rfl
    · (repeat (first | apply rs_nil | (apply rs_tmp; exact rfl) | (apply rs_cell; exact rfl; (repeat (first | with_reducible exact Pk.h | with_reducible apply Pk.t)); exact rfl)))
    · exact ⟨(by simp only [Sm.ok, q1]; rfl), rfl⟩
    · exact (by repeat (first | apply Sx.nil | apply Pk.h | apply Sx.cons | apply Pk.t))
  · (repeat (first | ((with_reducible apply t_run); exact rfl) | ((with_reducible apply t_p); exact rfl; exact rfl) | ((with_reducible apply t_gr); exact rfl) | ((with_reducible apply t_ge); exact rfl) | ((with_reducible apply t_ld); exact rfl; exact rfl; (repeat (first | with_reducible exact Pk.h | with_reducible apply Pk.t)); exact rfl) | ((with_reducible apply t_st); exact rfl; exact rfl; exact rfl; (repeat (first | with_reducible exact Pk.h | with_reducible apply Pk.t)); exact rfl; exact rfl; exact Nat.le_of_ble_eq_true rfl; exact rfl; (repeat (first | apply rk_nil | (apply rk_skip; exact rfl) | (apply rk_ld; exact rfl; (repeat (first | with_reducible exact Pk.h | with_reducible apply Pk.t)); exact rfl)))) | ((with_reducible apply t_nx F42.k); exact rfl; exact rfl) | with_reducible apply m_seq | (with_reducible apply m_reg mix) | with_reducible apply m_block | ((with_reducible apply m_ct); exact rfl) | ((with_reducible apply m_cf); exact rfl) | ((with_reducible apply m_skn); exact rfl) | ((with_reducible apply m_exn); exact rfl)))
    apply m_ret
    · rfl
    · (repeat (first | apply rs_nil | (apply rs_tmp; exact rfl) | (apply rs_cell; exact rfl; (repeat (first | with_reducible exact Pk.h | with_reducible apply Pk.t)); exact rfl)))
    · exact ⟨(by simp only [Sm.ok, q1]; rfl), rfl⟩
    · exact (by repeat (first | apply Sx.nil | apply Pk.h | apply Sx.cons | apply Pk.t))
theorem RKey_spec (s : ByteArray) : Fsp Try.prog 43 [.string s] [] fun u aa' => u = .bool (keyR s) ∧ aa' = [] := by
  refine spec_of F43.ok rfl fun gl X => ?_
  dsimp only [List.cons_append, List.nil_append]
  (repeat (first | ((with_reducible apply t_run); exact rfl) | ((with_reducible apply t_p); exact rfl; exact rfl) | ((with_reducible apply t_gr); exact rfl) | ((with_reducible apply t_ge); exact rfl) | ((with_reducible apply t_ld); exact rfl; exact rfl; (repeat (first | with_reducible exact Pk.h | with_reducible apply Pk.t)); exact rfl) | ((with_reducible apply t_st); exact rfl; exact rfl; exact rfl; (repeat (first | with_reducible exact Pk.h | with_reducible apply Pk.t)); exact rfl; exact rfl; exact Nat.le_of_ble_eq_true rfl; exact rfl; (repeat (first | apply rk_nil | (apply rk_skip; exact rfl) | (apply rk_ld; exact rfl; (repeat (first | with_reducible exact Pk.h | with_reducible apply Pk.t)); exact rfl)))) | ((with_reducible apply t_nx F43.k); exact rfl; exact rfl) | with_reducible apply m_seq | (with_reducible apply m_reg mix) | with_reducible apply m_block | ((with_reducible apply m_ct); exact rfl) | ((with_reducible apply m_cf); exact rfl) | ((with_reducible apply m_skn); exact rfl) | ((with_reducible apply m_exn); exact rfl)))
  refine t_spl 6 rfl (fun q1 => ?_) (fun q1 => ?_)
  · (repeat (first | ((with_reducible apply t_run); exact rfl) | ((with_reducible apply t_p); exact rfl; exact rfl) | ((with_reducible apply t_gr); exact rfl) | ((with_reducible apply t_ge); exact rfl) | ((with_reducible apply t_ld); exact rfl; exact rfl; (repeat (first | with_reducible exact Pk.h | with_reducible apply Pk.t)); exact rfl) | ((with_reducible apply t_st); exact rfl; exact rfl; exact rfl; (repeat (first | with_reducible exact Pk.h | with_reducible apply Pk.t)); exact rfl; exact rfl; exact Nat.le_of_ble_eq_true rfl; exact rfl; (repeat (first | apply rk_nil | (apply rk_skip; exact rfl) | (apply rk_ld; exact rfl; (repeat (first | with_reducible exact Pk.h | with_reducible apply Pk.t)); exact rfl)))) | ((with_reducible apply t_nx F43.k); exact rfl; exact rfl) | with_reducible apply m_seq | (with_reducible apply m_reg mix) | with_reducible apply m_block | ((with_reducible apply m_ct); exact rfl) | ((with_reducible apply m_cf); exact rfl) | ((with_reducible apply m_skn); exact rfl) | ((with_reducible apply m_exn); exact rfl)))
    have q1' : decide (1 ≤ (s.size : Int)) = true := by simpa using q1
    apply m_ret
    · rfl
    · (repeat (first | apply rs_nil | (apply rs_tmp; exact rfl) | (apply rs_cell; exact rfl; (repeat (first | with_reducible exact Pk.h | with_reducible apply Pk.t)); exact rfl)))
    · exact ⟨(by simp only [keyR, q1']; rfl), rfl⟩
    · exact (by repeat (first | apply Sx.nil | apply Pk.h | apply Sx.cons | apply Pk.t))
  · (repeat (first | ((with_reducible apply t_run); exact rfl) | ((with_reducible apply t_p); exact rfl; exact rfl) | ((with_reducible apply t_gr); exact rfl) | ((with_reducible apply t_ge); exact rfl) | ((with_reducible apply t_ld); exact rfl; exact rfl; (repeat (first | with_reducible exact Pk.h | with_reducible apply Pk.t)); exact rfl) | ((with_reducible apply t_st); exact rfl; exact rfl; exact rfl; (repeat (first | with_reducible exact Pk.h | with_reducible apply Pk.t)); exact rfl; exact rfl; exact Nat.le_of_ble_eq_true rfl; exact rfl; (repeat (first | apply rk_nil | (apply rk_skip; exact rfl) | (apply rk_ld; exact rfl; (repeat (first | with_reducible exact Pk.h | with_reducible apply Pk.t)); exact rfl)))) | ((with_reducible apply t_nx F43.k); exact rfl; exact rfl) | with_reducible apply m_seq | (with_reducible apply m_reg mix) | with_reducible apply m_block | ((with_reducible apply m_ct); exact rfl) | ((with_reducible apply m_cf); exact rfl) | ((with_reducible apply m_skn); exact rfl) | ((with_reducible apply m_exn); exact rfl)))
    have q1' : decide (1 ≤ (s.size : Int)) = false := by simpa using q1
    apply m_ret
    · rfl
    · (repeat (first | apply rs_nil | (apply rs_tmp; exact rfl) | (apply rs_cell; exact rfl; (repeat (first | with_reducible exact Pk.h | with_reducible apply Pk.t)); exact rfl)))
    · exact ⟨(by simp only [keyR, q1']; rfl), rfl⟩
    · exact (by repeat (first | apply Sx.nil | apply Pk.h | apply Sx.cons | apply Pk.t))
theorem RLess_spec (a b : Sm) : Fsp Try.prog 46 [a.V, b.V] [] fun u aa' => u = .bool (a.lt b) ∧ aa' = [] := by
  rw [lt_plain]
  obtain ⟨p, l⟩ := a
  obtain ⟨p', l'⟩ := b
  refine spec_of F46.ok rfl fun gl X => ?_
  dsimp only [List.cons_append, List.nil_append]
  simp only [Sm.V]
  (repeat (first | ((with_reducible apply t_run); exact rfl) | ((with_reducible apply t_p); exact rfl; exact rfl) | ((with_reducible apply t_gr); exact rfl) | ((with_reducible apply t_ge); exact rfl) | ((with_reducible apply t_ld); exact rfl; exact rfl; (repeat (first | with_reducible exact Pk.h | with_reducible apply Pk.t)); exact rfl) | ((with_reducible apply t_st); exact rfl; exact rfl; exact rfl; (repeat (first | with_reducible exact Pk.h | with_reducible apply Pk.t)); exact rfl; exact rfl; exact Nat.le_of_ble_eq_true rfl; exact rfl; (repeat (first | apply rk_nil | (apply rk_skip; exact rfl) | (apply rk_ld; exact rfl; (repeat (first | with_reducible exact Pk.h | with_reducible apply Pk.t)); exact rfl)))) | ((with_reducible apply t_nx F46.k); exact rfl; exact rfl) | with_reducible apply m_seq | (with_reducible apply m_reg mix) | with_reducible apply m_block | ((with_reducible apply m_ct); exact rfl) | ((with_reducible apply m_cf); exact rfl) | ((with_reducible apply m_skn); exact rfl) | ((with_reducible apply m_exn); exact rfl)))
  refine t_bx rfl rfl rfl fun b2 => ⟨(by (repeat (first | apply rk_nil | (apply rk_skip; exact rfl) | (apply rk_ld; exact rfl; (repeat (first | with_reducible exact Pk.h | with_reducible apply Pk.t)); exact rfl)))), ?_⟩
  try dsimp only [List.cons_append, List.nil_append]
  (repeat (first | ((with_reducible apply t_run); exact rfl) | ((with_reducible apply t_p); exact rfl; exact rfl) | ((with_reducible apply t_gr); exact rfl) | ((with_reducible apply t_ge); exact rfl) | ((with_reducible apply t_ld); exact rfl; exact rfl; (repeat (first | with_reducible exact Pk.h | with_reducible apply Pk.t)); exact rfl) | ((with_reducible apply t_st); exact rfl; exact rfl; exact rfl; (repeat (first | with_reducible exact Pk.h | with_reducible apply Pk.t)); exact rfl; exact rfl; exact Nat.le_of_ble_eq_true rfl; exact rfl; (repeat (first | apply rk_nil | (apply rk_skip; exact rfl) | (apply rk_ld; exact rfl; (repeat (first | with_reducible exact Pk.h | with_reducible apply Pk.t)); exact rfl)))) | ((with_reducible apply t_nx F46.k); exact rfl; exact rfl) | with_reducible apply m_seq | (with_reducible apply m_reg mix) | with_reducible apply m_block | ((with_reducible apply m_ct); exact rfl) | ((with_reducible apply m_cf); exact rfl) | ((with_reducible apply m_skn); exact rfl) | ((with_reducible apply m_exn); exact rfl)))
  refine t_bx rfl rfl rfl fun b3 => ⟨(by (repeat (first | apply rk_nil | (apply rk_skip; exact rfl) | (apply rk_ld; exact rfl; (repeat (first | with_reducible exact Pk.h | with_reducible apply Pk.t)); exact rfl)))), ?_⟩
  try dsimp only [List.cons_append, List.nil_append]
  (repeat (first | ((with_reducible apply t_run); exact rfl) | ((with_reducible apply t_p); exact rfl; exact rfl) | ((with_reducible apply t_gr); exact rfl) | ((with_reducible apply t_ge); exact rfl) | ((with_reducible apply t_ld); exact rfl; exact rfl; (repeat (first | with_reducible exact Pk.h | with_reducible apply Pk.t)); exact rfl) | ((with_reducible apply t_st); exact rfl; exact rfl; exact rfl; (repeat (first | with_reducible exact Pk.h | with_reducible apply Pk.t)); exact rfl; exact rfl; exact Nat.le_of_ble_eq_true rfl; exact rfl; (repeat (first | apply rk_nil | (apply rk_skip; exact rfl) | (apply rk_ld; exact rfl; (repeat (first | with_reducible exact Pk.h | with_reducible apply Pk.t)); exact rfl)))) | ((with_reducible apply t_nx F46.k); exact rfl; exact rfl) | with_reducible apply m_seq | (with_reducible apply m_reg mix) | with_reducible apply m_block | ((with_reducible apply m_ct); exact rfl) | ((with_reducible apply m_cf); exact rfl) | ((with_reducible apply m_skn); exact rfl) | ((with_reducible apply m_exn); exact rfl)))
  refine t_spl 10 rfl (fun q1 => ?_) (fun q1 => ?_)
  · (repeat (first | ((with_reducible apply t_run); exact rfl) | ((with_reducible apply t_p); exact rfl; exact rfl) | ((with_reducible apply t_gr); exact rfl) | ((with_reducible apply t_ge); exact rfl) | ((with_reducible apply t_ld); exact rfl; exact rfl; (repeat (first | with_reducible exact Pk.h | with_reducible apply Pk.t)); exact rfl) | ((with_reducible apply t_st); exact rfl; exact rfl; exact rfl; (repeat (first | with_reducible exact Pk.h | with_reducible apply Pk.t)); exact rfl; exact rfl; exact Nat.le_of_ble_eq_true rfl; exact rfl; (repeat (first | apply rk_nil | (apply rk_skip; exact rfl) | (apply rk_ld; exact rfl; (repeat (first | with_reducible exact Pk.h | with_reducible apply Pk.t)); exact rfl)))) | ((with_reducible apply t_nx F46.k); exact rfl; exact rfl) | with_reducible apply m_seq | (with_reducible apply m_reg mix) | with_reducible apply m_block | ((with_reducible apply m_ct); exact rfl) | ((with_reducible apply m_cf); exact rfl) | ((with_reducible apply m_skn); exact rfl) | ((with_reducible apply m_exn); exact rfl)))
    apply m_ret
    · rfl
    · (repeat (first | apply rs_nil | (apply rs_tmp; exact rfl) | (apply rs_cell; exact rfl; (repeat (first | with_reducible exact Pk.h | with_reducible apply Pk.t)); exact rfl)))
    · exact ⟨(by rw [q1]; rfl), rfl⟩
    · exact (by repeat (first | apply Sx.nil | apply Pk.h | apply Sx.cons | apply Pk.t))
  · (repeat (first | ((with_reducible apply t_run); exact rfl) | ((with_reducible apply t_p); exact rfl; exact rfl) | ((with_reducible apply t_gr); exact rfl) | ((with_reducible apply t_ge); exact rfl) | ((with_reducible apply t_ld); exact rfl; exact rfl; (repeat (first | with_reducible exact Pk.h | with_reducible apply Pk.t)); exact rfl) | ((with_reducible apply t_st); exact rfl; exact rfl; exact rfl; (repeat (first | with_reducible exact Pk.h | with_reducible apply Pk.t)); exact rfl; exact rfl; exact Nat.le_of_ble_eq_true rfl; exact rfl; (repeat (first | apply rk_nil | (apply rk_skip; exact rfl) | (apply rk_ld; exact rfl; (repeat (first | with_reducible exact Pk.h | with_reducible apply Pk.t)); exact rfl)))) | ((with_reducible apply t_nx F46.k); exact rfl; exact rfl) | with_reducible apply m_seq | (with_reducible apply m_reg mix) | with_reducible apply m_block | ((with_reducible apply m_ct); exact rfl) | ((with_reducible apply m_cf); exact rfl) | ((with_reducible apply m_skn); exact rfl) | ((with_reducible apply m_exn); exact rfl)))
    refine t_spl 16 rfl (fun q2 => ?_) (fun q2 => ?_)
    · (repeat (first | ((with_reducible apply t_run); exact rfl) | ((with_reducible apply t_p); exact rfl; exact rfl) | ((with_reducible apply t_gr); exact rfl) | ((with_reducible apply t_ge); exact rfl) | ((with_reducible apply t_ld); exact rfl; exact rfl; (repeat (first | with_reducible exact Pk.h | with_reducible apply Pk.t)); exact rfl) | ((with_reducible apply t_st); exact rfl; exact rfl; exact rfl; (repeat (first | with_reducible exact Pk.h | with_reducible apply Pk.t)); exact rfl; exact rfl; exact Nat.le_of_ble_eq_true rfl; exact rfl; (repeat (first | apply rk_nil | (apply rk_skip; exact rfl) | (apply rk_ld; exact rfl; (repeat (first | with_reducible exact Pk.h | with_reducible apply Pk.t)); exact rfl)))) | ((with_reducible apply t_nx F46.k); exact rfl; exact rfl) | with_reducible apply m_seq | (with_reducible apply m_reg mix) | with_reducible apply m_block | ((with_reducible apply m_ct); exact rfl) | ((with_reducible apply m_cf); exact rfl) | ((with_reducible apply m_skn); exact rfl) | ((with_reducible apply m_exn); exact rfl)))
      apply m_ret
      · rfl
      · (repeat (first | apply rs_nil | (apply rs_tmp; exact rfl) | (apply rs_cell; exact rfl; (repeat (first | with_reducible exact Pk.h | with_reducible apply Pk.t)); exact rfl)))
      · exact ⟨(by rw [q1, q2]; rfl), rfl⟩
      · exact (by repeat (first | apply Sx.nil | apply Pk.h | apply Sx.cons | apply Pk.t))
    · (repeat (first | ((with_reducible apply t_run); exact rfl) | ((with_reducible apply t_p); exact rfl; exact rfl) | ((with_reducible apply t_gr); exact rfl) | ((with_reducible apply t_ge); exact rfl) | ((with_reducible apply t_ld); exact rfl; exact rfl; (repeat (first | with_reducible exact Pk.h | with_reducible apply Pk.t)); exact rfl) | ((with_reducible apply t_st); exact rfl; exact rfl; exact rfl; (repeat (first | with_reducible exact Pk.h | with_reducible apply Pk.t)); exact rfl; exact rfl; exact Nat.le_of_ble_eq_true rfl; exact rfl; (repeat (first | apply rk_nil | (apply rk_skip; exact rfl) | (apply rk_ld; exact rfl; (repeat (first | with_reducible exact Pk.h | with_reducible apply Pk.t)); exact rfl)))) | ((with_reducible apply t_nx F46.k); exact rfl; exact rfl) | with_reducible apply m_seq | (with_reducible apply m_reg mix) | with_reducible apply m_block | ((with_reducible apply m_ct); exact rfl) | ((with_reducible apply m_cf); exact rfl) | ((with_reducible apply m_skn); exact rfl) | ((with_reducible apply m_exn); exact rfl)))
      apply m_ret
      · rfl
      · (repeat (first | apply rs_nil | (apply rs_tmp; exact rfl) | (apply rs_cell; exact rfl; (repeat (first | with_reducible exact Pk.h | with_reducible apply Pk.t)); exact rfl)))
      · exact ⟨(by rw [q1, q2]; rfl), rfl⟩
      · exact (by repeat (first | apply Sx.nil | apply Pk.h | apply Sx.cons | apply Pk.t))
theorem RMax_spec (a b : Sm) : Fsp Try.prog 45 [a.V, b.V] [] fun u aa' => u = (maxS a b).V ∧ aa' = [] := by
  have hl := RLess_spec a b
  obtain ⟨p, l⟩ := a
  obtain ⟨p', l'⟩ := b
  refine spec_of F45.ok rfl fun gl X => ?_
  dsimp only [List.cons_append, List.nil_append]
  simp only [Sm.V] at hl ⊢
  (repeat (first | ((with_reducible apply t_run); exact rfl) | ((with_reducible apply t_p); exact rfl; exact rfl) | ((with_reducible apply t_gr); exact rfl) | ((with_reducible apply t_ge); exact rfl) | ((with_reducible apply t_ld); exact rfl; exact rfl; (repeat (first | with_reducible exact Pk.h | with_reducible apply Pk.t)); exact rfl) | ((with_reducible apply t_st); exact rfl; exact rfl; exact rfl; (repeat (first | with_reducible exact Pk.h | with_reducible apply Pk.t)); exact rfl; exact rfl; exact Nat.le_of_ble_eq_true rfl; exact rfl; (repeat (first | apply rk_nil | (apply rk_skip; exact rfl) | (apply rk_ld; exact rfl; (repeat (first | with_reducible exact Pk.h | with_reducible apply Pk.t)); exact rfl)))) | ((with_reducible apply t_nx F45.k); exact rfl; exact rfl) | with_reducible apply m_seq | (with_reducible apply m_reg mix) | with_reducible apply m_block | ((with_reducible apply m_ct); exact rfl) | ((with_reducible apply m_cf); exact rfl) | ((with_reducible apply m_skn); exact rfl) | ((with_reducible apply m_exn); exact rfl)))
  refine t_bx rfl rfl rfl fun b2 => ⟨(by (repeat (first | apply rk_nil | (apply rk_skip; exact rfl) | (apply rk_ld; exact rfl; (repeat (first | with_reducible exact Pk.h | with_reducible apply Pk.t)); exact rfl)))), ?_⟩
  try dsimp only [List.cons_append, List.nil_append]
  (repeat (first | ((with_reducible apply t_run); exact rfl) | ((with_reducible apply t_p); exact rfl; exact rfl) | ((with_reducible apply t_gr); exact rfl) | ((with_reducible apply t_ge); exact rfl) | ((with_reducible apply t_ld); exact rfl; exact rfl; (repeat (first | with_reducible exact Pk.h | with_reducible apply Pk.t)); exact rfl) | ((with_reducible apply t_st); exact rfl; exact rfl; exact rfl; (repeat (first | with_reducible exact Pk.h | with_reducible apply Pk.t)); exact rfl; exact rfl; exact Nat.le_of_ble_eq_true rfl; exact rfl; (repeat (first | apply rk_nil | (apply rk_skip; exact rfl) | (apply rk_ld; exact rfl; (repeat (first | with_reducible exact Pk.h | with_reducible apply Pk.t)); exact rfl)))) | ((with_reducible apply t_nx F45.k); exact rfl; exact rfl) | with_reducible apply m_seq | (with_reducible apply m_reg mix) | with_reducible apply m_block | ((with_reducible apply m_ct); exact rfl) | ((with_reducible apply m_cf); exact rfl) | ((with_reducible apply m_skn); exact rfl) | ((with_reducible apply m_exn); exact rfl)))
  refine t_bx rfl rfl rfl fun b3 => ⟨(by (repeat (first | apply rk_nil | (apply rk_skip; exact rfl) | (apply rk_ld; exact rfl; (repeat (first | with_reducible exact Pk.h | with_reducible apply Pk.t)); exact rfl)))), ?_⟩
  try dsimp only [List.cons_append, List.nil_append]
  (repeat (first | ((with_reducible apply t_run); exact rfl) | ((with_reducible apply t_p); exact rfl; exact rfl) | ((with_reducible apply t_gr); exact rfl) | ((with_reducible apply t_ge); exact rfl) | ((with_reducible apply t_ld); exact rfl; exact rfl; (repeat (first | with_reducible exact Pk.h | with_reducible apply Pk.t)); exact rfl) | ((with_reducible apply t_st); exact rfl; exact rfl; exact rfl; (repeat (first | with_reducible exact Pk.h | with_reducible apply Pk.t)); exact rfl; exact rfl; exact Nat.le_of_ble_eq_true rfl; exact rfl; (repeat (first | apply rk_nil | (apply rk_skip; exact rfl) | (apply rk_ld; exact rfl; (repeat (first | with_reducible exact Pk.h | with_reducible apply Pk.t)); exact rfl)))) | ((with_reducible apply t_nx F45.k); exact rfl; exact rfl) | with_reducible apply m_seq | (with_reducible apply m_reg mix) | with_reducible apply m_block | ((with_reducible apply m_ct); exact rfl) | ((with_reducible apply m_cf); exact rfl) | ((with_reducible apply m_skn); exact rfl) | ((with_reducible apply m_exn); exact rfl)))
  refine t_al rfl fun b4 => ⟨(by (repeat (first | apply rk_nil | (apply rk_skip; exact rfl) | (apply rk_ld; exact rfl; (repeat (first | with_reducible exact Pk.h | with_reducible apply Pk.t)); exact rfl)))), ?_⟩
  (repeat (first | ((with_reducible apply t_run); exact rfl) | ((with_reducible apply t_p); exact rfl; exact rfl) | ((with_reducible apply t_gr); exact rfl) | ((with_reducible apply t_ge); exact rfl) | ((with_reducible apply t_ld); exact rfl; exact rfl; (repeat (first | with_reducible exact Pk.h | with_reducible apply Pk.t)); exact rfl) | ((with_reducible apply t_st); exact rfl; exact rfl; exact rfl; (repeat (first | with_reducible exact Pk.h | with_reducible apply Pk.t)); exact rfl; exact rfl; exact Nat.le_of_ble_eq_true rfl; exact rfl; (repeat (first | apply rk_nil | (apply rk_skip; exact rfl) | (apply rk_ld; exact rfl; (repeat (first | with_reducible exact Pk.h | with_reducible apply Pk.t)); exact rfl)))) | ((with_reducible apply t_nx F45.k); exact rfl; exact rfl) | with_reducible apply m_seq | (with_reducible apply m_reg mix) | with_reducible apply m_block | ((with_reducible apply m_ct); exact rfl) | ((with_reducible apply m_cf); exact rfl) | ((with_reducible apply m_skn); exact rfl) | ((with_reducible apply m_exn); exact rfl)))
  refine t_cl rfl rfl (hl) (by repeat (first | apply Sx.nil | apply Pk.h | apply Sx.cons | apply Pk.t)) ?_
  rintro _ _ ⟨rfl, rfl⟩
  refine ⟨?_, ?_⟩ <;> (try dsimp only [List.cons_append, List.nil_append])
  · (repeat (first | apply rk_nil | (apply rk_skip; exact rfl) | (apply rk_ld; exact rfl; (repeat (first | with_reducible exact Pk.h | with_reducible apply Pk.t)); exact rfl)))
  (repeat (first | ((with_reducible apply t_run); exact rfl) | ((with_reducible apply t_p); exact rfl; exact rfl) | ((with_reducible apply t_gr); exact rfl) | ((with_reducible apply t_ge); exact rfl) | ((with_reducible apply t_ld); exact rfl; exact rfl; (repeat (first | with_reducible exact Pk.h | with_reducible apply Pk.t)); exact rfl) | ((with_reducible apply t_st); exact rfl; exact rfl; exact rfl; (repeat (first | with_reducible exact Pk.h | with_reducible apply Pk.t)); exact rfl; exact rfl; exact Nat.le_of_ble_eq_true rfl; exact rfl; (repeat (first | apply rk_nil | (apply rk_skip; exact rfl) | (apply rk_ld; exact rfl; (repeat (first | with_reducible exact Pk.h | with_reducible apply Pk.t)); exact rfl)))) | ((with_reducible apply t_nx F45.k); exact rfl; exact rfl) | with_reducible apply m_seq | (with_reducible apply m_reg mix) | with_reducible apply m_block | ((with_reducible apply m_ct); exact rfl) | ((with_reducible apply m_cf); exact rfl) | ((with_reducible apply m_skn); exact rfl) | ((with_reducible apply m_exn); exact rfl)))
  unfold maxS
  generalize Sm.lt ⟨p, l⟩ ⟨p', l'⟩ = c
  cases c with
  | true =>
    (repeat (first | ((with_reducible apply t_run); exact rfl) | ((with_reducible apply t_p); exact rfl; exact rfl) | ((with_reducible apply t_gr); exact rfl) | ((with_reducible apply t_ge); exact rfl) | ((with_reducible apply t_ld); exact rfl; exact rfl; (repeat (first | with_reducible exact Pk.h | with_reducible apply Pk.t)); exact rfl) | ((with_reducible apply t_st); exact rfl; exact rfl; exact rfl; (repeat (first | with_reducible exact Pk.h | with_reducible apply Pk.t)); exact rfl; exact rfl; exact Nat.le_of_ble_eq_true rfl; exact rfl; (repeat (first | apply rk_nil | (apply rk_skip; exact rfl) | (apply rk_ld; exact rfl; (repeat (first | with_reducible exact Pk.h | with_reducible apply Pk.t)); exact rfl)))) | ((with_reducible apply t_nx F45.k); exact rfl; exact rfl) | with_reducible apply m_seq | (with_reducible apply m_reg mix) | with_reducible apply m_block | ((with_reducible apply m_ct); exact rfl) | ((with_reducible apply m_cf); exact rfl) | ((with_reducible apply m_skn); exact rfl) | ((with_reducible apply m_exn); exact rfl)))
    apply m_ret
    · rfl
    · (repeat (first | apply rs_nil | (apply rs_tmp; exact rfl) | (apply rs_cell; exact rfl; (repeat (first | with_reducible exact Pk.h | with_reducible apply Pk.t)); exact rfl)))
    · exact ⟨rfl, rfl⟩
    · exact (by repeat (first | apply Sx.nil | apply Pk.h | apply Sx.cons | apply Pk.t))
  | false =>
    (repeat (first | ((with_reducible apply t_run); exact rfl) | ((with_reducible apply t_p); exact rfl; exact rfl) | ((with_reducible apply t_gr); exact rfl) | ((with_reducible apply t_ge); exact rfl) | ((with_reducible apply t_ld); exact rfl; exact rfl; (repeat (first | with_reducible exact Pk.h | with_reducible apply Pk.t)); exact rfl) | ((with_reducible apply t_st); exact rfl; exact rfl; exact rfl; (repeat (first | with_reducible exact Pk.h | with_reducible apply Pk.t)); exact rfl; exact rfl; exact Nat.le_of_ble_eq_true rfl; exact rfl; (repeat (first | apply rk_nil | (apply rk_skip; exact rfl) | (apply rk_ld; exact rfl; (repeat (first | with_reducible exact Pk.h | with_reducible apply Pk.t)); exact rfl)))) | ((with_reducible apply t_nx F45.k); exact rfl; exact rfl) | with_reducible apply m_seq | (with_reducible apply m_reg mix) | with_reducible apply m_block | ((with_reducible apply m_ct); exact rfl) | ((with_reducible apply m_cf); exact rfl) | ((with_reducible apply m_skn); exact rfl) | ((with_reducible apply m_exn); exact rfl)))
    apply m_ret
    · rfl
    · (repeat (first | apply rs_nil | (apply rs_tmp; exact rfl) | (apply rs_cell; exact rfl; (repeat (first | with_reducible exact Pk.h | with_reducible apply Pk.t)); exact rfl)))
    · exact ⟨rfl, rfl⟩
    · exact (by repeat (first | apply Sx.nil | apply Pk.h | apply Sx.cons | apply Pk.t))
theorem any_step {α : Type} {p : α → Bool} {l : List α} {i : Nat} (hi : i < l.length) : (l.drop i).any p = (p l[i] || (l.drop (i + 1)).any p) := by
  rw [List.drop_eq_getElem_cons hi, List.any_cons]
theorem RAmong_spec (R : HP) (v : Value) (ts : List Tx) (x : Tx) (hv : RdS R 2 v (ts.map Tx.cells)) (hl : ts.length < 9223372036854775808) :
    Fsp Try.prog 47 [v, x.V] [R] fun u aa' => u = .bool (ts.any (eqT x)) ∧ aa' = [R] := by
  obtain ⟨a, c, rfl⟩ := hv.len
  have hlen : (ts.map Tx.cells).length = ts.length := by simp
  rw [hlen] at hv ⊢
  obtain ⟨xc, xn⟩ := x
  refine spec_of F47.ok rfl fun gl X => ?_
  dsimp only [List.cons_append, List.nil_append]
  simp only [Tx.V]
  (repeat (first | ((with_reducible apply t_run); exact rfl) | ((with_reducible apply t_p); exact rfl; exact rfl) | ((with_reducible apply t_gr); exact rfl) | ((with_reducible apply t_ge); exact rfl) | ((with_reducible apply t_ld); exact rfl; exact rfl; (repeat (first | with_reducible exact Pk.h | with_reducible apply Pk.t)); exact rfl) | ((with_reducible apply t_st); exact rfl; exact rfl; exact rfl; (repeat (first | with_reducible exact Pk.h | with_reducible apply Pk.t)); exact rfl; exact rfl; exact Nat.le_of_ble_eq_true rfl; exact rfl; (repeat (first | apply rk_nil | (apply rk_skip; exact rfl) | (apply rk_ld; exact rfl; (repeat (first | with_reducible exact Pk.h | with_reducible apply Pk.t)); exact rfl)))) | ((with_reducible apply t_nx F47.k); exact rfl; exact rfl) | with_reducible apply m_seq | (with_reducible apply m_reg mix) | with_reducible apply m_block | ((with_reducible apply m_ct); exact rfl) | ((with_reducible apply m_cf); exact rfl) | ((with_reducible apply m_skn); exact rfl) | ((with_reducible apply m_exn); exact rfl)))
  refine t_bx rfl rfl rfl fun b3 => ⟨(by (repeat (first | apply rk_nil | (apply rk_skip; exact rfl) | (apply rk_ld; exact rfl; (repeat (first | with_reducible exact Pk.h | with_reducible apply Pk.t)); exact rfl)))), ?_⟩
  try dsimp only [List.cons_append, List.nil_append]
  (repeat (first | ((with_reducible apply t_run); exact rfl) | ((with_reducible apply t_p); exact rfl; exact rfl) | ((with_reducible apply t_gr); exact rfl) | ((with_reducible apply t_ge); exact rfl) | ((with_reducible apply t_ld); exact rfl; exact rfl; (repeat (first | with_reducible exact Pk.h | with_reducible apply Pk.t)); exact rfl) | ((with_reducible apply t_st); exact rfl; exact rfl; exact rfl; (repeat (first | with_reducible exact Pk.h | with_reducible apply Pk.t)); exact rfl; exact rfl; exact Nat.le_of_ble_eq_true rfl; exact rfl; (repeat (first | apply rk_nil | (apply rk_skip; exact rfl) | (apply rk_ld; exact rfl; (repeat (first | with_reducible exact Pk.h | with_reducible apply Pk.t)); exact rfl)))) | ((with_reducible apply t_nx F47.k); exact rfl; exact rfl) | with_reducible apply m_seq | (with_reducible apply m_reg mix) | with_reducible apply m_block | ((with_reducible apply m_ct); exact rfl) | ((with_reducible apply m_cf); exact rfl) | ((with_reducible apply m_skn); exact rfl) | ((with_reducible apply m_exn); exact rfl)))
  refine m_lp (α := Nat) (fun i => [(5, .int .i64 (i : Nat)), (0, .slice a ts.length c), (3, .pointer (some ⟨b3, 0, none⟩))]) (fun _ => [R, Cl b3 25 [.int .u32 xc, .int .u32 xn], X]) (fun i => i ≤ ts.length ∧ (ts.drop i).any (eqT ⟨xc, xn⟩) = ts.any (eqT ⟨xc, xn⟩)) (fun i => ts.length - i) ?_ 0 ⟨by omega, rfl⟩ [5, 0, 3] rfl (by repeat (first | apply Sx.nil | apply Pk.h | apply Sx.cons | apply Pk.t))
  rintro i ⟨hi, ho⟩
  (repeat (first | ((with_reducible apply t_run); exact rfl) | ((with_reducible apply t_p); exact rfl; exact rfl) | ((with_reducible apply t_gr); exact rfl) | ((with_reducible apply t_ge); exact rfl) | ((with_reducible apply t_ld); exact rfl; exact rfl; (repeat (first | with_reducible exact Pk.h | with_reducible apply Pk.t)); exact rfl) | ((with_reducible apply t_st); exact rfl; exact rfl; exact rfl; (repeat (first | with_reducible exact Pk.h | with_reducible apply Pk.t)); exact rfl; exact rfl; exact Nat.le_of_ble_eq_true rfl; exact rfl; (repeat (first | apply rk_nil | (apply rk_skip; exact rfl) | (apply rk_ld; exact rfl; (repeat (first | with_reducible exact Pk.h | with_reducible apply Pk.t)); exact rfl)))) | ((with_reducible apply t_nx F47.k); exact rfl; exact rfl) | with_reducible apply m_seq | (with_reducible apply m_reg mix) | with_reducible apply m_block | ((with_reducible apply m_ct); exact rfl) | ((with_reducible apply m_cf); exact rfl) | ((with_reducible apply m_skn); exact rfl) | ((with_reducible apply m_exn); exact rfl)))
  refine m_cond rfl (fun q => ?_) (fun q => ?_)
  · have hi' : i < ts.length := by have := of_decide_eq_true q; omega
    obtain ⟨b, o, rfl, _⟩ := hv.ptr (by rw [hlen]; omega)
    rw [any_step hi'] at ho
    (repeat (first | ((with_reducible apply t_run); exact rfl) | ((with_reducible apply t_p); exact rfl; exact rfl) | ((with_reducible apply t_gr); exact rfl) | ((with_reducible apply t_ge); exact rfl) | ((with_reducible apply t_ld); exact rfl; exact rfl; (repeat (first | with_reducible exact Pk.h | with_reducible apply Pk.t)); exact rfl) | ((with_reducible apply t_st); exact rfl; exact rfl; exact rfl; (repeat (first | with_reducible exact Pk.h | with_reducible apply Pk.t)); exact rfl; exact rfl; exact Nat.le_of_ble_eq_true rfl; exact rfl; (repeat (first | apply rk_nil | (apply rk_skip; exact rfl) | (apply rk_ld; exact rfl; (repeat (first | with_reducible exact Pk.h | with_reducible apply Pk.t)); exact rfl)))) | ((with_reducible apply t_nx F47.k); exact rfl; exact rfl) | with_reducible apply m_seq | (with_reducible apply m_reg mix) | with_reducible apply m_block | ((with_reducible apply m_ct); exact rfl) | ((with_reducible apply m_cf); exact rfl) | ((with_reducible apply m_skn); exact rfl) | ((with_reducible apply m_exn); exact rfl)))
    refine t_ia i rfl rfl rfl hi' ?_
    refine t_la rfl rfl (R := R) (by repeat (first | with_reducible exact Pk.h | with_reducible apply Pk.t)) (hv.at (by decide) (i := i) (x := ts[i].cells) (by simp [hi'])) ?_
    simp only [Tx.cells]
    (repeat (first | ((with_reducible apply t_run); exact rfl) | ((with_reducible apply t_p); exact rfl; exact rfl) | ((with_reducible apply t_gr); exact rfl) | ((with_reducible apply t_ge); exact rfl) | ((with_reducible apply t_ld); exact rfl; exact rfl; (repeat (first | with_reducible exact Pk.h | with_reducible apply Pk.t)); exact rfl) | ((with_reducible apply t_st); exact rfl; exact rfl; exact rfl; (repeat (first | with_reducible exact Pk.h | with_reducible apply Pk.t)); exact rfl; exact rfl; exact Nat.le_of_ble_eq_true rfl; exact rfl; (repeat (first | apply rk_nil | (apply rk_skip; exact rfl) | (apply rk_ld; exact rfl; (repeat (first | with_reducible exact Pk.h | with_reducible apply Pk.t)); exact rfl)))) | ((with_reducible apply t_nx F47.k); exact rfl; exact rfl) | with_reducible apply m_seq | (with_reducible apply m_reg mix) | with_reducible apply m_block | ((with_reducible apply m_ct); exact rfl) | ((with_reducible apply m_cf); exact rfl) | ((with_reducible apply m_skn); exact rfl) | ((with_reducible apply m_exn); exact rfl)))
    refine m_cond rfl (fun q2 => ?_) (fun q2 => ?_)
    · (repeat (first | ((with_reducible apply t_run); exact rfl) | ((with_reducible apply t_p); exact rfl; exact rfl) | ((with_reducible apply t_gr); exact rfl) | ((with_reducible apply t_ge); exact rfl) | ((with_reducible apply t_ld); exact rfl; exact rfl; (repeat (first | with_reducible exact Pk.h | with_reducible apply Pk.t)); exact rfl) | ((with_reducible apply t_st); exact rfl; exact rfl; exact rfl; (repeat (first | with_reducible exact Pk.h | with_reducible apply Pk.t)); exact rfl; exact rfl; exact Nat.le_of_ble_eq_true rfl; exact rfl; (repeat (first | apply rk_nil | (apply rk_skip; exact rfl) | (apply rk_ld; exact rfl; (repeat (first | with_reducible exact Pk.h | with_reducible apply Pk.t)); exact rfl)))) | ((with_reducible apply t_nx F47.k); exact rfl; exact rfl) | with_reducible apply m_seq | (with_reducible apply m_reg mix) | with_reducible apply m_block | ((with_reducible apply m_ct); exact rfl) | ((with_reducible apply m_cf); exact rfl) | ((with_reducible apply m_skn); exact rfl) | ((with_reducible apply m_exn); exact rfl)))
      have q3 : eqT ⟨xc, xn⟩ ts[i] = true := by
        rw [eqT]
        simp only [cond_false, Bool.and_true, Bool.and_eq_true, decide_eq_true_eq] at q2 ⊢
        exact ⟨q2.1.symm, q2.2.symm⟩
      rw [q3, Bool.true_or] at ho
      rw [← ho]
      apply m_ret
      · rfl
      · (repeat (first | apply rs_nil | (apply rs_tmp; exact rfl) | (apply rs_cell; exact rfl; (repeat (first | with_reducible exact Pk.h | with_reducible apply Pk.t)); exact rfl)))
      · exact ⟨rfl, rfl⟩
      · exact (by repeat (first | apply Sx.nil | apply Pk.h | apply Sx.cons | apply Pk.t))
    · (repeat (first | ((with_reducible apply t_run); exact rfl) | ((with_reducible apply t_p); exact rfl; exact rfl) | ((with_reducible apply t_gr); exact rfl) | ((with_reducible apply t_ge); exact rfl) | ((with_reducible apply t_ld); exact rfl; exact rfl; (repeat (first | with_reducible exact Pk.h | with_reducible apply Pk.t)); exact rfl) | ((with_reducible apply t_st); exact rfl; exact rfl; exact rfl; (repeat (first | with_reducible exact Pk.h | with_reducible apply Pk.t)); exact rfl; exact rfl; exact Nat.le_of_ble_eq_true rfl; exact rfl; (repeat (first | apply rk_nil | (apply rk_skip; exact rfl) | (apply rk_ld; exact rfl; (repeat (first | with_reducible exact Pk.h | with_reducible apply Pk.t)); exact rfl)))) | ((with_reducible apply t_nx F47.k); exact rfl; exact rfl) | with_reducible apply m_seq | (with_reducible apply m_reg mix) | with_reducible apply m_block | ((with_reducible apply m_ct); exact rfl) | ((with_reducible apply m_cf); exact rfl) | ((with_reducible apply m_skn); exact rfl) | ((with_reducible apply m_exn); exact rfl)))
      have q3 : eqT ⟨xc, xn⟩ ts[i] = false := by
        cases e : eqT ⟨xc, xn⟩ ts[i] with
        | false => rfl
        | true =>
          rw [eqT] at e
          simp only [Bool.and_eq_true, decide_eq_true_eq] at e
          simp [e.1, e.2] at q2
      rw [q3, Bool.false_or] at ho
      refine t_meet rfl (i + 1) ⟨⟨by omega, ho⟩, by omega⟩ [5, 0, 3] ?_ (by repeat (first | apply Sx.nil | apply Pk.h | apply Sx.cons | apply Pk.t))
      rw [wrap_nat (by omega)]
      rfl
  · have hi' : i = ts.length := by have := of_decide_eq_false q; omega
    (repeat (first | ((with_reducible apply t_run); exact rfl) | ((with_reducible apply t_p); exact rfl; exact rfl) | ((with_reducible apply t_gr); exact rfl) | ((with_reducible apply t_ge); exact rfl) | ((with_reducible apply t_ld); exact rfl; exact rfl; (repeat (first | with_reducible exact Pk.h | with_reducible apply Pk.t)); exact rfl) | ((with_reducible apply t_st); exact rfl; exact rfl; exact rfl; (repeat (first | with_reducible exact Pk.h | with_reducible apply Pk.t)); exact rfl; exact rfl; exact Nat.le_of_ble_eq_true rfl; exact rfl; (repeat (first | apply rk_nil | (apply rk_skip; exact rfl) | (apply rk_ld; exact rfl; (repeat (first | with_reducible exact Pk.h | with_reducible apply Pk.t)); exact rfl)))) | ((with_reducible apply t_nx F47.k); exact rfl; exact rfl) | with_reducible apply m_seq | (with_reducible apply m_reg mix) | with_reducible apply m_block | ((with_reducible apply m_ct); exact rfl) | ((with_reducible apply m_cf); exact rfl) | ((with_reducible apply m_skn); exact rfl) | ((with_reducible apply m_exn); exact rfl)))
    subst hi'
    rw [List.drop_length, List.any_nil] at ho
    rw [← ho]
    apply m_ret
    · rfl
    · (repeat (first | apply rs_nil | (apply rs_tmp; exact rfl) | (apply rs_cell; exact rfl; (repeat (first | with_reducible exact Pk.h | with_reducible apply Pk.t)); exact rfl)))
    · exact ⟨rfl, rfl⟩
    · exact (by repeat (first | apply Sx.nil | apply Pk.h | apply Sx.cons | apply Pk.t))

/-- the same intents: of equal lists alone -/
theorem RSame_spec (R Q : HP) (v w : Value) (A : List In) (hv : RdS R 10 v (ics A)) (hw : RdS Q 10 w (ics A)) (hl : A.length < 9223372036854775808) :
    Fsp Try.prog 19 [v, w] [R, Q] fun u aa' => u = .bool true ∧ aa' = [R, Q] := by
  obtain ⟨a, c, rfl⟩ := hv.len
  obtain ⟨a', c', rfl⟩ := hw.len
  have hlen : (ics A).length = A.length := by simp [ics]
  rw [hlen] at hv hw ⊢
  refine spec_of F19.ok rfl fun gl X => ?_
  dsimp only [List.cons_append, List.nil_append]
  (repeat (first | ((with_reducible apply t_run); exact rfl) | ((with_reducible apply t_p); exact rfl; exact rfl) | ((with_reducible apply t_gr); exact rfl) | ((with_reducible apply t_ge); exact rfl) | ((with_reducible apply t_ld); exact rfl; exact rfl; (repeat (first | with_reducible exact Pk.h | with_reducible apply Pk.t)); exact rfl) | ((with_reducible apply t_st); exact rfl; exact rfl; exact rfl; (repeat (first | with_reducible exact Pk.h | with_reducible apply Pk.t)); exact rfl; exact rfl; exact Nat.le_of_ble_eq_true rfl; exact rfl; (repeat (first | apply rk_nil | (apply rk_skip; exact rfl) | (apply rk_ld; exact rfl; (repeat (first | with_reducible exact Pk.h | with_reducible apply Pk.t)); exact rfl)))) | ((with_reducible apply t_nx F19.k); exact rfl; exact rfl) | with_reducible apply m_seq | (with_reducible apply m_reg mix) | with_reducible apply m_block | ((with_reducible apply m_ct); exact rfl) | ((with_reducible apply m_cf); exact rfl) | ((with_reducible apply m_skn); exact rfl) | ((with_reducible apply m_exn); exact rfl)))
  refine m_cond rfl (fun q => ?_) (fun q => ?_)
  · exfalso
    simp at q
  (repeat (first | ((with_reducible apply t_run); exact rfl) | ((with_reducible apply t_p); exact rfl; exact rfl) | ((with_reducible apply t_gr); exact rfl) | ((with_reducible apply t_ge); exact rfl) | ((with_reducible apply t_ld); exact rfl; exact rfl; (repeat (first | with_reducible exact Pk.h | with_reducible apply Pk.t)); exact rfl) | ((with_reducible apply t_st); exact rfl; exact rfl; exact rfl; (repeat (first | with_reducible exact Pk.h | with_reducible apply Pk.t)); exact rfl; exact rfl; exact Nat.le_of_ble_eq_true rfl; exact rfl; (repeat (first | apply rk_nil | (apply rk_skip; exact rfl) | (apply rk_ld; exact rfl; (repeat (first | with_reducible exact Pk.h | with_reducible apply Pk.t)); exact rfl)))) | ((with_reducible apply t_nx F19.k); exact rfl; exact rfl) | with_reducible apply m_seq | (with_reducible apply m_reg mix) | with_reducible apply m_block | ((with_reducible apply m_ct); exact rfl) | ((with_reducible apply m_cf); exact rfl) | ((with_reducible apply m_skn); exact rfl) | ((with_reducible apply m_exn); exact rfl)))
  refine m_lp (α := Nat) (fun i => [(5, .int .i64 (i : Nat)), (0, .slice a A.length c), (1, .slice a' A.length c')]) (fun _ => [R, Q, X]) (fun i => i ≤ A.length) (fun i => A.length - i) ?_ 0 (by omega) [5, 0, 1] rfl (by repeat (first | apply Sx.nil | apply Pk.h | apply Sx.cons | apply Pk.t))
  intro i hi
  (repeat (first | ((with_reducible apply t_run); exact rfl) | ((with_reducible apply t_p); exact rfl; exact rfl) | ((with_reducible apply t_gr); exact rfl) | ((with_reducible apply t_ge); exact rfl) | ((with_reducible apply t_ld); exact rfl; exact rfl; (repeat (first | with_reducible exact Pk.h | with_reducible apply Pk.t)); exact rfl) | ((with_reducible apply t_st); exact rfl; exact rfl; exact rfl; (repeat (first | with_reducible exact Pk.h | with_reducible apply Pk.t)); exact rfl; exact rfl; exact Nat.le_of_ble_eq_true rfl; exact rfl; (repeat (first | apply rk_nil | (apply rk_skip; exact rfl) | (apply rk_ld; exact rfl; (repeat (first | with_reducible exact Pk.h | with_reducible apply Pk.t)); exact rfl)))) | ((with_reducible apply t_nx F19.k); exact rfl; exact rfl) | with_reducible apply m_seq | (with_reducible apply m_reg mix) | with_reducible apply m_block | ((with_reducible apply m_ct); exact rfl) | ((with_reducible apply m_cf); exact rfl) | ((with_reducible apply m_skn); exact rfl) | ((with_reducible apply m_exn); exact rfl)))
  refine m_cond rfl (fun q2 => ?_) (fun q2 => ?_)
  · have hi' : i < A.length := by have := of_decide_eq_true q2; omega
    obtain ⟨b, o, rfl, _⟩ := hv.ptr (by rw [hlen]; omega)
    obtain ⟨b', o', rfl, _⟩ := hw.ptr (by rw [hlen]; omega)
    have h1 := hv.at (by decide) (i := i) (x := A[i].cells) (by simp [ics, hi'])
    have h2 := hw.at (by decide) (i := i) (x := A[i].cells) (by simp [ics, hi'])
    (repeat (first | ((with_reducible apply t_run); exact rfl) | ((with_reducible apply t_p); exact rfl; exact rfl) | ((with_reducible apply t_gr); exact rfl) | ((with_reducible apply t_ge); exact rfl) | ((with_reducible apply t_ld); exact rfl; exact rfl; (repeat (first | with_reducible exact Pk.h | with_reducible apply Pk.t)); exact rfl) | ((with_reducible apply t_st); exact rfl; exact rfl; exact rfl; (repeat (first | with_reducible exact Pk.h | with_reducible apply Pk.t)); exact rfl; exact rfl; exact Nat.le_of_ble_eq_true rfl; exact rfl; (repeat (first | apply rk_nil | (apply rk_skip; exact rfl) | (apply rk_ld; exact rfl; (repeat (first | with_reducible exact Pk.h | with_reducible apply Pk.t)); exact rfl)))) | ((with_reducible apply t_nx F19.k); exact rfl; exact rfl) | with_reducible apply m_seq | (with_reducible apply m_reg mix) | with_reducible apply m_block | ((with_reducible apply m_ct); exact rfl) | ((with_reducible apply m_cf); exact rfl) | ((with_reducible apply m_skn); exact rfl) | ((with_reducible apply m_exn); exact rfl)))
    refine t_ia i rfl rfl rfl hi' ?_
    refine t_la rfl rfl (R := R) (by repeat (first | with_reducible exact Pk.h | with_reducible apply Pk.t)) h1 ?_
    (repeat (first | ((with_reducible apply t_run); exact rfl) | ((with_reducible apply t_p); exact rfl; exact rfl) | ((with_reducible apply t_gr); exact rfl) | ((with_reducible apply t_ge); exact rfl) | ((with_reducible apply t_ld); exact rfl; exact rfl; (repeat (first | with_reducible exact Pk.h | with_reducible apply Pk.t)); exact rfl) | ((with_reducible apply t_st); exact rfl; exact rfl; exact rfl; (repeat (first | with_reducible exact Pk.h | with_reducible apply Pk.t)); exact rfl; exact rfl; exact Nat.le_of_ble_eq_true rfl; exact rfl; (repeat (first | apply rk_nil | (apply rk_skip; exact rfl) | (apply rk_ld; exact rfl; (repeat (first | with_reducible exact Pk.h | with_reducible apply Pk.t)); exact rfl)))) | ((with_reducible apply t_nx F19.k); exact rfl; exact rfl) | with_reducible apply m_seq | (with_reducible apply m_reg mix) | with_reducible apply m_block | ((with_reducible apply m_ct); exact rfl) | ((with_reducible apply m_cf); exact rfl) | ((with_reducible apply m_skn); exact rfl) | ((with_reducible apply m_exn); exact rfl)))
    refine t_ia i rfl rfl rfl hi' ?_
    refine t_la rfl rfl (R := Q) (by repeat (first | with_reducible exact Pk.h | with_reducible apply Pk.t)) h2 ?_
    simp only [In.cells]
    (repeat (first | ((with_reducible apply t_run); exact rfl) | ((with_reducible apply t_p); exact rfl; exact rfl) | ((with_reducible apply t_gr); exact rfl) | ((with_reducible apply t_ge); exact rfl) | ((with_reducible apply t_ld); exact rfl; exact rfl; (repeat (first | with_reducible exact Pk.h | with_reducible apply Pk.t)); exact rfl) | ((with_reducible apply t_st); exact rfl; exact rfl; exact rfl; (repeat (first | with_reducible exact Pk.h | with_reducible apply Pk.t)); exact rfl; exact rfl; exact Nat.le_of_ble_eq_true rfl; exact rfl; (repeat (first | apply rk_nil | (apply rk_skip; exact rfl) | (apply rk_ld; exact rfl; (repeat (first | with_reducible exact Pk.h | with_reducible apply Pk.t)); exact rfl)))) | ((with_reducible apply t_nx F19.k); exact rfl; exact rfl) | with_reducible apply m_seq | (with_reducible apply m_reg mix) | with_reducible apply m_block | ((with_reducible apply m_ct); exact rfl) | ((with_reducible apply m_cf); exact rfl) | ((with_reducible apply m_skn); exact rfl) | ((with_reducible apply m_exn); exact rfl)))
    refine m_cond rfl (fun q3 => ?_) (fun q3 => ?_)
    · exfalso
      simp at q3
    (repeat (first | ((with_reducible apply t_run); exact rfl) | ((with_reducible apply t_p); exact rfl; exact rfl) | ((with_reducible apply t_gr); exact rfl) | ((with_reducible apply t_ge); exact rfl) | ((with_reducible apply t_ld); exact rfl; exact rfl; (repeat (first | with_reducible exact Pk.h | with_reducible apply Pk.t)); exact rfl) | ((with_reducible apply t_st); exact rfl; exact rfl; exact rfl; (repeat (first | with_reducible exact Pk.h | with_reducible apply Pk.t)); exact rfl; exact rfl; exact Nat.le_of_ble_eq_true rfl; exact rfl; (repeat (first | apply rk_nil | (apply rk_skip; exact rfl) | (apply rk_ld; exact rfl; (repeat (first | with_reducible exact Pk.h | with_reducible apply Pk.t)); exact rfl)))) | ((with_reducible apply t_nx F19.k); exact rfl; exact rfl) | with_reducible apply m_seq | (with_reducible apply m_reg mix) | with_reducible apply m_block | ((with_reducible apply m_ct); exact rfl) | ((with_reducible apply m_cf); exact rfl) | ((with_reducible apply m_skn); exact rfl) | ((with_reducible apply m_exn); exact rfl)))
    refine t_meet rfl (i + 1) ⟨hi', by omega⟩ [5, 0, 1] ?_ (by repeat (first | apply Sx.nil | apply Pk.h | apply Sx.cons | apply Pk.t))
    rw [wrap_nat (by omega)]
    rfl
  · (repeat (first | ((with_reducible apply t_run); exact rfl) | ((with_reducible apply t_p); exact rfl; exact rfl) | ((with_reducible apply t_gr); exact rfl) | ((with_reducible apply t_ge); exact rfl) | ((with_reducible apply t_ld); exact rfl; exact rfl; (repeat (first | with_reducible exact Pk.h | with_reducible apply Pk.t)); exact rfl) | ((with_reducible apply t_st); exact rfl; exact rfl; exact rfl; (repeat (first | with_reducible exact Pk.h | with_reducible apply Pk.t)); exact rfl; exact rfl; exact Nat.le_of_ble_eq_true rfl; exact rfl; (repeat (first | apply rk_nil | (apply rk_skip; exact rfl) | (apply rk_ld; exact rfl; (repeat (first | with_reducible exact Pk.h | with_reducible apply Pk.t)); exact rfl)))) | ((with_reducible apply t_nx F19.k); exact rfl; exact rfl) | with_reducible apply m_seq | (with_reducible apply m_reg mix) | with_reducible apply m_block | ((with_reducible apply m_ct); exact rfl) | ((with_reducible apply m_cf); exact rfl) | ((with_reducible apply m_skn); exact rfl) | ((with_reducible apply m_exn); exact rfl)))
    apply m_ret
    · rfl
    · (repeat (first | apply rs_nil | (apply rs_tmp; exact rfl) | (apply rs_cell; exact rfl; (repeat (first | with_reducible exact Pk.h | with_reducible apply Pk.t)); exact rfl)))
    · exact ⟨rfl, rfl⟩
    · exact (by repeat (first | apply Sx.nil | apply Pk.h | apply Sx.cons | apply Pk.t))
end Go.Proofs.Ythcbefkgfhokoaa

/- The document's answer: writes that may be laid. -/
namespace Go.Proofs.Ythcbefkgfhokoaa
open Go Go.Dv
open Classical
set_option maxRecDepth 100000
attribute [local irreducible] HTh HM En Fsp TrA Cl MpA OwS RdS MpO TabA HsA TabL Old

def okW0 (w : Wr) : Bool := keyR w.key && !decide ((w.val.size : Int) > 256) && (!w.dead || decide (w.val = emp))
def chk : List ByteArray → List Wr → Bool
  | _, [] => true
  | seen, w :: ws => okW0 w && !hasK seen w.key && chk (seen ++ [w.key]) ws
theorem goR_chk (n : Nat) : ∀ (ws : List Wr) (seen : List ByteArray), goR n seen ws = if (n : Int) ≤ 16 then chk seen ws else ws.isEmpty
  | [], seen => by simp [goR, chk]
  | w :: ws, seen => by
    have ih := goR_chk n ws (seen ++ [w.key])
    simp only [goR, chk, okW, okW0]
    by_cases h : (n : Int) ≤ 16
    · have h2 : ¬ ((n : Int) > 16) := by omega
      rw [ih, if_pos h, if_pos h]
      simp only [h2, decide_false, Bool.not_false, Bool.true_and]
      cases (keyR w.key && !decide ((w.val.size : Int) > 256) && (!w.dead || decide (w.val = emp)) && !hasK seen w.key) <;> simp
    · have h2 : (n : Int) > 16 := by omega
      rw [if_neg h]
      simp [h2]
theorem rightL_chk (ws : List Wr) : rightL ws = (chk [] ws && (decide ((ws.length : Int) ≥ 1) && decide ((ws.length : Int) ≤ 16))) := by
  rw [rightL, goR_chk]
  by_cases h : (ws.length : Int) ≤ 16
  · rw [if_pos h]
    have e : decide (0 < ws.length) = decide ((ws.length : Int) ≥ 1) := by
      congr 1
      rw [eq_iff_iff]
      omega
    simp [h, e]
  · rw [if_neg h]
    have : ws ≠ [] := by rintro rfl; simp at h
    simp [h, this]
theorem chk_drop {seen : List ByteArray} {ws : List Wr} {i : Nat} (hi : i < ws.length) : chk seen (ws.drop i) = (okW0 ws[i] && !hasK seen ws[i].key && chk (seen ++ [ws[i].key]) (ws.drop (i + 1))) := by
  rw [List.drop_eq_getElem_cons hi]; rfl
def keysL (ws : List Wr) : List ByteArray := ws.map Wr.key
theorem keys_step {ws : List Wr} {i : Nat} (hi : i < ws.length) : keysL (ws.take (i + 1)) = keysL (ws.take i) ++ [ws[i].key] := by
  rw [List.take_succ_eq_append_getElem hi, keysL, keysL, List.map_append]; rfl
theorem hasK_step {ws : List Wr} {i : Nat} (hi : i < ws.length) (k : ByteArray) : hasK (keysL (ws.take (i + 1))) k = (hasK (keysL (ws.take i)) k || decide (ws[i].key = k)) := by
  rw [keys_step hi, hasK, List.any_append, hasK]; simp
theorem hasK_mono {ws : List Wr} {i j : Nat} (hij : i ≤ j) {k : ByteArray} (h : hasK (keysL (ws.take i)) k = true) : hasK (keysL (ws.take j)) k = true := by
  rw [hasK_iff] at h ⊢
  obtain ⟨w, hw, rfl⟩ := List.mem_map.1 h
  refine List.mem_map.2 ⟨w, ?_, rfl⟩
  have e : (ws.take j).take i = ws.take i := by rw [List.take_take, Nat.min_eq_left hij]
  rw [← e] at hw
  exact List.mem_of_mem_take hw

theorem RRight_spec (R : HP) (v : Value) (ws : List Wr) (hv : RdS R 3 v (wcs ws)) (hl : ws.length < 9223372036854775808) :
    Fsp Try.prog 25 [v] [R] fun u aa' => u = .bool (rightL ws) ∧ aa' = [R] := by
  rw [rightL_chk]
  obtain ⟨a, c, rfl⟩ := hv.len
  have hlen := wcs_len ws
  rw [hlen] at hv ⊢
  refine spec_of F25.ok rfl fun gl X => ?_
  dsimp only [List.cons_append, List.nil_append]
  (repeat (first | ((with_reducible apply t_run); exact rfl) | ((with_reducible apply t_p); exact rfl; exact rfl) | ((with_reducible apply t_gr); exact rfl) | ((with_reducible apply t_ge); exact rfl) | ((with_reducible apply t_ld); exact rfl; exact rfl; (repeat (first | with_reducible exact Pk.h | with_reducible apply Pk.t)); exact rfl) | ((with_reducible apply t_st); exact rfl; exact rfl; exact rfl; (repeat (first | with_reducible exact Pk.h | with_reducible apply Pk.t)); exact rfl; exact rfl; exact Nat.le_of_ble_eq_true rfl; exact rfl; (repeat (first | apply rk_nil | (apply rk_skip; exact rfl) | (apply rk_ld; exact rfl; (repeat (first | with_reducible exact Pk.h | with_reducible apply Pk.t)); exact rfl)))) | ((with_reducible apply t_nx F25.k); exact rfl; exact rfl) | with_reducible apply m_seq | (with_reducible apply m_reg mix) | with_reducible apply m_block | ((with_reducible apply m_ct); exact rfl) | ((with_reducible apply m_cf); exact rfl) | ((with_reducible apply m_skn); exact rfl) | ((with_reducible apply m_exn); exact rfl)))
  refine m_cutb (i := 0) (α := Unit) (fun _ => [(0, .slice a ws.length c)]) (fun _ => [R, X]) (fun _ => chk [] ws = true) rfl rfl ?_ ?_
  · refine m_lp (α := Nat) (fun i => [(3, .int .i64 (i : Nat)), (0, .slice a ws.length c)]) (fun _ => [R, X]) (fun i => i ≤ ws.length ∧ chk (keysL (ws.take i)) (ws.drop i) = chk [] ws) (fun i => ws.length - i) ?_ 0 ⟨by omega, rfl⟩ [3, 0] rfl (by repeat (first | apply Sx.nil | apply Pk.h | apply Sx.cons | apply Pk.t))
    rintro i ⟨hi, ho⟩
    (repeat (first | ((with_reducible apply t_run); exact rfl) | ((with_reducible apply t_p); exact rfl; exact rfl) | ((with_reducible apply t_gr); exact rfl) | ((with_reducible apply t_ge); exact rfl) | ((with_reducible apply t_ld); exact rfl; exact rfl; (repeat (first | with_reducible exact Pk.h | with_reducible apply Pk.t)); exact rfl) | ((with_reducible apply t_st); exact rfl; exact rfl; exact rfl; (repeat (first | with_reducible exact Pk.h | with_reducible apply Pk.t)); exact rfl; exact rfl; exact Nat.le_of_ble_eq_true rfl; exact rfl; (repeat (first | apply rk_nil | (apply rk_skip; exact rfl) | (apply rk_ld; exact rfl; (repeat (first | with_reducible exact Pk.h | with_reducible apply Pk.t)); exact rfl)))) | ((with_reducible apply t_nx F25.k); exact rfl; exact rfl) | with_reducible apply m_seq | (with_reducible apply m_reg mix) | with_reducible apply m_block | ((with_reducible apply m_ct); exact rfl) | ((with_reducible apply m_cf); exact rfl) | ((with_reducible apply m_skn); exact rfl) | ((with_reducible apply m_exn); exact rfl)))
    refine m_cond rfl (fun q => ?_) (fun q => ?_)
    · have hi' : i < ws.length := by have := of_decide_eq_true q; omega
      obtain ⟨b, o, rfl, _⟩ := hv.ptr (by rw [hlen]; omega)
      rw [chk_drop hi', ← keys_step hi'] at ho
      have hat0 := hv.part (by decide) (i := i) (f := 0) (cc := none) (x := ws[i].cells) (v := .string ws[i].key) (by simp [wcs, hi']) rfl
      have hat1 := hv.part (by decide) (i := i) (f := 1) (cc := none) (x := ws[i].cells) (v := .string ws[i].val) (by simp [wcs, hi']) rfl
      have hat2 := hv.part (by decide) (i := i) (f := 2) (cc := none) (x := ws[i].cells) (v := .bool ws[i].dead) (by simp [wcs, hi']) rfl
      have key0 := fun j (hj : j < ws.length) => hv.part (by decide) (i := j) (f := 0) (cc := none) (x := ws[j].cells) (v := .string ws[j].key) (by simp [wcs, hj]) rfl
      have hm := @hasK_mono ws
      have hfin : hasK (keysL (ws.take i)) ws[i].key = true → chk [] ws = false := fun h => by rw [← ho, h]; simp
      have hfin2 : okW0 ws[i] = false → chk [] ws = false := fun h => by rw [← ho, h]; simp
      have hok0 : okW0 ws[i] = (keyR ws[i].key && !decide ((ws[i].val.size : Int) > 256) && (!ws[i].dead || decide (ws[i].val = emp))) := rfl
      generalize ws[i] = w at ho hat0 hat1 hat2 hfin hfin2 hok0
      obtain ⟨wk, wv, wd⟩ := w
      dsimp only at hfin hfin2 hok0 hat0 hat1 hat2 ho
      (repeat (first | ((with_reducible apply t_run); exact rfl) | ((with_reducible apply t_p); exact rfl; exact rfl) | ((with_reducible apply t_gr); exact rfl) | ((with_reducible apply t_ge); exact rfl) | ((with_reducible apply t_ld); exact rfl; exact rfl; (repeat (first | with_reducible exact Pk.h | with_reducible apply Pk.t)); exact rfl) | ((with_reducible apply t_st); exact rfl; exact rfl; exact rfl; (repeat (first | with_reducible exact Pk.h | with_reducible apply Pk.t)); exact rfl; exact rfl; exact Nat.le_of_ble_eq_true rfl; exact rfl; (repeat (first | apply rk_nil | (apply rk_skip; exact rfl) | (apply rk_ld; exact rfl; (repeat (first | with_reducible exact Pk.h | with_reducible apply Pk.t)); exact rfl)))) | ((with_reducible apply t_nx F25.k); exact rfl; exact rfl) | with_reducible apply m_seq | (with_reducible apply m_reg mix) | with_reducible apply m_block | ((with_reducible apply m_ct); exact rfl) | ((with_reducible apply m_cf); exact rfl) | ((with_reducible apply m_skn); exact rfl) | ((with_reducible apply m_exn); exact rfl)))
      refine t_ia i rfl rfl rfl hi' ?_
      (repeat (first | ((with_reducible apply t_run); exact rfl) | ((with_reducible apply t_p); exact rfl; exact rfl) | ((with_reducible apply t_gr); exact rfl) | ((with_reducible apply t_ge); exact rfl) | ((with_reducible apply t_ld); exact rfl; exact rfl; (repeat (first | with_reducible exact Pk.h | with_reducible apply Pk.t)); exact rfl) | ((with_reducible apply t_st); exact rfl; exact rfl; exact rfl; (repeat (first | with_reducible exact Pk.h | with_reducible apply Pk.t)); exact rfl; exact rfl; exact Nat.le_of_ble_eq_true rfl; exact rfl; (repeat (first | apply rk_nil | (apply rk_skip; exact rfl) | (apply rk_ld; exact rfl; (repeat (first | with_reducible exact Pk.h | with_reducible apply Pk.t)); exact rfl)))) | ((with_reducible apply t_nx F25.k); exact rfl; exact rfl) | with_reducible apply m_seq | (with_reducible apply m_reg mix) | with_reducible apply m_block | ((with_reducible apply m_ct); exact rfl) | ((with_reducible apply m_cf); exact rfl) | ((with_reducible apply m_skn); exact rfl) | ((with_reducible apply m_exn); exact rfl)))
      refine t_la rfl rfl (R := R) (by repeat (first | with_reducible exact Pk.h | with_reducible apply Pk.t)) hat0 ?_
      (repeat (first | ((with_reducible apply t_run); exact rfl) | ((with_reducible apply t_p); exact rfl; exact rfl) | ((with_reducible apply t_gr); exact rfl) | ((with_reducible apply t_ge); exact rfl) | ((with_reducible apply t_ld); exact rfl; exact rfl; (repeat (first | with_reducible exact Pk.h | with_reducible apply Pk.t)); exact rfl) | ((with_reducible apply t_st); exact rfl; exact rfl; exact rfl; (repeat (first | with_reducible exact Pk.h | with_reducible apply Pk.t)); exact rfl; exact rfl; exact Nat.le_of_ble_eq_true rfl; exact rfl; (repeat (first | apply rk_nil | (apply rk_skip; exact rfl) | (apply rk_ld; exact rfl; (repeat (first | with_reducible exact Pk.h | with_reducible apply Pk.t)); exact rfl)))) | ((with_reducible apply t_nx F25.k); exact rfl; exact rfl) | with_reducible apply m_seq | (with_reducible apply m_reg mix) | with_reducible apply m_block | ((with_reducible apply m_ct); exact rfl) | ((with_reducible apply m_cf); exact rfl) | ((with_reducible apply m_skn); exact rfl) | ((with_reducible apply m_exn); exact rfl)))
      refine t_cl rfl rfl (RKey_spec wk) (by repeat (first | apply Sx.nil | apply Pk.h | apply Sx.cons | apply Pk.t)) ?_
      rintro _ _ ⟨rfl, rfl⟩
      refine ⟨?_, ?_⟩ <;> (try dsimp only [List.cons_append, List.nil_append])
      · (repeat (first | apply rk_nil | (apply rk_skip; exact rfl) | (apply rk_ld; exact rfl; (repeat (first | with_reducible exact Pk.h | with_reducible apply Pk.t)); exact rfl)))
      (repeat (first | ((with_reducible apply t_run); exact rfl) | ((with_reducible apply t_p); exact rfl; exact rfl) | ((with_reducible apply t_gr); exact rfl) | ((with_reducible apply t_ge); exact rfl) | ((with_reducible apply t_ld); exact rfl; exact rfl; (repeat (first | with_reducible exact Pk.h | with_reducible apply Pk.t)); exact rfl) | ((with_reducible apply t_st); exact rfl; exact rfl; exact rfl; (repeat (first | with_reducible exact Pk.h | with_reducible apply Pk.t)); exact rfl; exact rfl; exact Nat.le_of_ble_eq_true rfl; exact rfl; (repeat (first | apply rk_nil | (apply rk_skip; exact rfl) | (apply rk_ld; exact rfl; (repeat (first | with_reducible exact Pk.h | with_reducible apply Pk.t)); exact rfl)))) | ((with_reducible apply t_nx F25.k); exact rfl; exact rfl) | with_reducible apply m_seq | (with_reducible apply m_reg mix) | with_reducible apply m_block | ((with_reducible apply m_ct); exact rfl) | ((with_reducible apply m_cf); exact rfl) | ((with_reducible apply m_skn); exact rfl) | ((with_reducible apply m_exn); exact rfl)))
      have hbad := hfin2
      refine t_spl 18 rfl (fun p1 => ?_) (fun p1 => ?_)
      · have p1' : keyR wk = false := by simpa using p1
        (repeat (first | ((with_reducible apply t_run); exact rfl) | ((with_reducible apply t_p); exact rfl; exact rfl) | ((with_reducible apply t_gr); exact rfl) | ((with_reducible apply t_ge); exact rfl) | ((with_reducible apply t_ld); exact rfl; exact rfl; (repeat (first | with_reducible exact Pk.h | with_reducible apply Pk.t)); exact rfl) | ((with_reducible apply t_st); exact rfl; exact rfl; exact rfl; (repeat (first | with_reducible exact Pk.h | with_reducible apply Pk.t)); exact rfl; exact rfl; exact Nat.le_of_ble_eq_true rfl; exact rfl; (repeat (first | apply rk_nil | (apply rk_skip; exact rfl) | (apply rk_ld; exact rfl; (repeat (first | with_reducible exact Pk.h | with_reducible apply Pk.t)); exact rfl)))) | ((with_reducible apply t_nx F25.k); exact rfl; exact rfl) | with_reducible apply m_seq | (with_reducible apply m_reg mix) | with_reducible apply m_block | ((with_reducible apply m_ct); exact rfl) | ((with_reducible apply m_cf); exact rfl) | ((with_reducible apply m_skn); exact rfl) | ((with_reducible apply m_exn); exact rfl)))
        rw [hbad (by rw [hok0, p1']; rfl)]
        apply m_ret
        · rfl
        · (repeat (first | apply rs_nil | (apply rs_tmp; exact rfl) | (apply rs_cell; exact rfl; (repeat (first | with_reducible exact Pk.h | with_reducible apply Pk.t)); exact rfl)))
        · exact ⟨rfl, rfl⟩
        · exact (by repeat (first | apply Sx.nil | apply Pk.h | apply Sx.cons | apply Pk.t))
      have p1' : keyR wk = true := by simpa using p1
      (repeat (first | ((with_reducible apply t_run); exact rfl) | ((with_reducible apply t_p); exact rfl; exact rfl) | ((with_reducible apply t_gr); exact rfl) | ((with_reducible apply t_ge); exact rfl) | ((with_reducible apply t_ld); exact rfl; exact rfl; (repeat (first | with_reducible exact Pk.h | with_reducible apply Pk.t)); exact rfl) | ((with_reducible apply t_st); exact rfl; exact rfl; exact rfl; (repeat (first | with_reducible exact Pk.h | with_reducible apply Pk.t)); exact rfl; exact rfl; exact Nat.le_of_ble_eq_true rfl; exact rfl; (repeat (first | apply rk_nil | (apply rk_skip; exact rfl) | (apply rk_ld; exact rfl; (repeat (first | with_reducible exact Pk.h | with_reducible apply Pk.t)); exact rfl)))) | ((with_reducible apply t_nx F25.k); exact rfl; exact rfl) | with_reducible apply m_seq | (with_reducible apply m_reg mix) | with_reducible apply m_block | ((with_reducible apply m_ct); exact rfl) | ((with_reducible apply m_cf); exact rfl) | ((with_reducible apply m_skn); exact rfl) | ((with_reducible apply m_exn); exact rfl)))
      refine t_ia i rfl rfl rfl hi' ?_
      (repeat (first | ((with_reducible apply t_run); exact rfl) | ((with_reducible apply t_p); exact rfl; exact rfl) | ((with_reducible apply t_gr); exact rfl) | ((with_reducible apply t_ge); exact rfl) | ((with_reducible apply t_ld); exact rfl; exact rfl; (repeat (first | with_reducible exact Pk.h | with_reducible apply Pk.t)); exact rfl) | ((with_reducible apply t_st); exact rfl; exact rfl; exact rfl; (repeat (first | with_reducible exact Pk.h | with_reducible apply Pk.t)); exact rfl; exact rfl; exact Nat.le_of_ble_eq_true rfl; exact rfl; (repeat (first | apply rk_nil | (apply rk_skip; exact rfl) | (apply rk_ld; exact rfl; (repeat (first | with_reducible exact Pk.h | with_reducible apply Pk.t)); exact rfl)))) | ((with_reducible apply t_nx F25.k); exact rfl; exact rfl) | with_reducible apply m_seq | (with_reducible apply m_reg mix) | with_reducible apply m_block | ((with_reducible apply m_ct); exact rfl) | ((with_reducible apply m_cf); exact rfl) | ((with_reducible apply m_skn); exact rfl) | ((with_reducible apply m_exn); exact rfl)))
      refine t_la rfl rfl (R := R) (by repeat (first | with_reducible exact Pk.h | with_reducible apply Pk.t)) hat1 ?_
      (repeat (first | ((with_reducible apply t_run); exact rfl) | ((with_reducible apply t_p); exact rfl; exact rfl) | ((with_reducible apply t_gr); exact rfl) | ((with_reducible apply t_ge); exact rfl) | ((with_reducible apply t_ld); exact rfl; exact rfl; (repeat (first | with_reducible exact Pk.h | with_reducible apply Pk.t)); exact rfl) | ((with_reducible apply t_st); exact rfl; exact rfl; exact rfl; (repeat (first | with_reducible exact Pk.h | with_reducible apply Pk.t)); exact rfl; exact rfl; exact Nat.le_of_ble_eq_true rfl; exact rfl; (repeat (first | apply rk_nil | (apply rk_skip; exact rfl) | (apply rk_ld; exact rfl; (repeat (first | with_reducible exact Pk.h | with_reducible apply Pk.t)); exact rfl)))) | ((with_reducible apply t_nx F25.k); exact rfl; exact rfl) | with_reducible apply m_seq | (with_reducible apply m_reg mix) | with_reducible apply m_block | ((with_reducible apply m_ct); exact rfl) | ((with_reducible apply m_cf); exact rfl) | ((with_reducible apply m_skn); exact rfl) | ((with_reducible apply m_exn); exact rfl)))
      refine t_spl 27 rfl (fun p2 => ?_) (fun p2 => ?_)
      · (repeat (first | ((with_reducible apply t_run); exact rfl) | ((with_reducible apply t_p); exact rfl; exact rfl) | ((with_reducible apply t_gr); exact rfl) | ((with_reducible apply t_ge); exact rfl) | ((with_reducible apply t_ld); exact rfl; exact rfl; (repeat (first | with_reducible exact Pk.h | with_reducible apply Pk.t)); exact rfl) | ((with_reducible apply t_st); exact rfl; exact rfl; exact rfl; (repeat (first | with_reducible exact Pk.h | with_reducible apply Pk.t)); exact rfl; exact rfl; exact Nat.le_of_ble_eq_true rfl; exact rfl; (repeat (first | apply rk_nil | (apply rk_skip; exact rfl) | (apply rk_ld; exact rfl; (repeat (first | with_reducible exact Pk.h | with_reducible apply Pk.t)); exact rfl)))) | ((with_reducible apply t_nx F25.k); exact rfl; exact rfl) | with_reducible apply m_seq | (with_reducible apply m_reg mix) | with_reducible apply m_block | ((with_reducible apply m_ct); exact rfl) | ((with_reducible apply m_cf); exact rfl) | ((with_reducible apply m_skn); exact rfl) | ((with_reducible apply m_exn); exact rfl)))
        rw [hbad (by rw [hok0, p1', show decide ((wv.size : Int) > 256) = true from p2]; rfl)]
        apply m_ret
        · rfl
        · (repeat (first | apply rs_nil | (apply rs_tmp; exact rfl) | (apply rs_cell; exact rfl; (repeat (first | with_reducible exact Pk.h | with_reducible apply Pk.t)); exact rfl)))
        · exact ⟨rfl, rfl⟩
        · exact (by repeat (first | apply Sx.nil | apply Pk.h | apply Sx.cons | apply Pk.t))
      (repeat (first | ((with_reducible apply t_run); exact rfl) | ((with_reducible apply t_p); exact rfl; exact rfl) | ((with_reducible apply t_gr); exact rfl) | ((with_reducible apply t_ge); exact rfl) | ((with_reducible apply t_ld); exact rfl; exact rfl; (repeat (first | with_reducible exact Pk.h | with_reducible apply Pk.t)); exact rfl) | ((with_reducible apply t_st); exact rfl; exact rfl; exact rfl; (repeat (first | with_reducible exact Pk.h | with_reducible apply Pk.t)); exact rfl; exact rfl; exact Nat.le_of_ble_eq_true rfl; exact rfl; (repeat (first | apply rk_nil | (apply rk_skip; exact rfl) | (apply rk_ld; exact rfl; (repeat (first | with_reducible exact Pk.h | with_reducible apply Pk.t)); exact rfl)))) | ((with_reducible apply t_nx F25.k); exact rfl; exact rfl) | with_reducible apply m_seq | (with_reducible apply m_reg mix) | with_reducible apply m_block | ((with_reducible apply m_ct); exact rfl) | ((with_reducible apply m_cf); exact rfl) | ((with_reducible apply m_skn); exact rfl) | ((with_reducible apply m_exn); exact rfl)))
      refine t_ia i rfl rfl rfl hi' ?_
      (repeat (first | ((with_reducible apply t_run); exact rfl) | ((with_reducible apply t_p); exact rfl; exact rfl) | ((with_reducible apply t_gr); exact rfl) | ((with_reducible apply t_ge); exact rfl) | ((with_reducible apply t_ld); exact rfl; exact rfl; (repeat (first | with_reducible exact Pk.h | with_reducible apply Pk.t)); exact rfl) | ((with_reducible apply t_st); exact rfl; exact rfl; exact rfl; (repeat (first | with_reducible exact Pk.h | with_reducible apply Pk.t)); exact rfl; exact rfl; exact Nat.le_of_ble_eq_true rfl; exact rfl; (repeat (first | apply rk_nil | (apply rk_skip; exact rfl) | (apply rk_ld; exact rfl; (repeat (first | with_reducible exact Pk.h | with_reducible apply Pk.t)); exact rfl)))) | ((with_reducible apply t_nx F25.k); exact rfl; exact rfl) | with_reducible apply m_seq | (with_reducible apply m_reg mix) | with_reducible apply m_block | ((with_reducible apply m_ct); exact rfl) | ((with_reducible apply m_cf); exact rfl) | ((with_reducible apply m_skn); exact rfl) | ((with_reducible apply m_exn); exact rfl)))
      refine t_la rfl rfl (R := R) (by repeat (first | with_reducible exact Pk.h | with_reducible apply Pk.t)) hat2 ?_
      (repeat (first | ((with_reducible apply t_run); exact rfl) | ((with_reducible apply t_p); exact rfl; exact rfl) | ((with_reducible apply t_gr); exact rfl) | ((with_reducible apply t_ge); exact rfl) | ((with_reducible apply t_ld); exact rfl; exact rfl; (repeat (first | with_reducible exact Pk.h | with_reducible apply Pk.t)); exact rfl) | ((with_reducible apply t_st); exact rfl; exact rfl; exact rfl; (repeat (first | with_reducible exact Pk.h | with_reducible apply Pk.t)); exact rfl; exact rfl; exact Nat.le_of_ble_eq_true rfl; exact rfl; (repeat (first | apply rk_nil | (apply rk_skip; exact rfl) | (apply rk_ld; exact rfl; (repeat (first | with_reducible exact Pk.h | with_reducible apply Pk.t)); exact rfl)))) | ((with_reducible apply t_nx F25.k); exact rfl; exact rfl) | with_reducible apply m_seq | (with_reducible apply m_reg mix) | with_reducible apply m_block | ((with_reducible apply m_ct); exact rfl) | ((with_reducible apply m_cf); exact rfl) | ((with_reducible apply m_skn); exact rfl) | ((with_reducible apply m_exn); exact rfl)))
      have p2' : decide ((wv.size : Int) > 256) = false := p2
      cases wd with
      | false =>
        (repeat (first | ((with_reducible apply t_run); exact rfl) | ((with_reducible apply t_p); exact rfl; exact rfl) | ((with_reducible apply t_gr); exact rfl) | ((with_reducible apply t_ge); exact rfl) | ((with_reducible apply t_ld); exact rfl; exact rfl; (repeat (first | with_reducible exact Pk.h | with_reducible apply Pk.t)); exact rfl) | ((with_reducible apply t_st); exact rfl; exact rfl; exact rfl; (repeat (first | with_reducible exact Pk.h | with_reducible apply Pk.t)); exact rfl; exact rfl; exact Nat.le_of_ble_eq_true rfl; exact rfl; (repeat (first | apply rk_nil | (apply rk_skip; exact rfl) | (apply rk_ld; exact rfl; (repeat (first | with_reducible exact Pk.h | with_reducible apply Pk.t)); exact rfl)))) | ((with_reducible apply t_nx F25.k); exact rfl; exact rfl) | with_reducible apply m_seq | (with_reducible apply m_reg mix) | with_reducible apply m_block | ((with_reducible apply m_ct); exact rfl) | ((with_reducible apply m_cf); exact rfl) | ((with_reducible apply m_skn); exact rfl) | ((with_reducible apply m_exn); exact rfl)))
        have hgood : okW0 ⟨wk, wv, false⟩ = true := by rw [hok0, p1', p2']; rfl
        refine m_lp (α := Nat) (fun k => [(4, .int .i64 (k : Nat)), (3, .int .i64 (i : Nat)), (0, .slice (some ⟨b, o, none⟩) ws.length c)]) (fun _ => [R, X]) (fun k => k ≤ i ∧ hasK (keysL (ws.take k)) wk = false) (fun k => i - k) ?_ 0 ⟨by omega, rfl⟩ [4, 3, 0] rfl (by repeat (first | apply Sx.nil | apply Pk.h | apply Sx.cons | apply Pk.t))
        rintro k ⟨hk, hno⟩
        (repeat (first | ((with_reducible apply t_run); exact rfl) | ((with_reducible apply t_p); exact rfl; exact rfl) | ((with_reducible apply t_gr); exact rfl) | ((with_reducible apply t_ge); exact rfl) | ((with_reducible apply t_ld); exact rfl; exact rfl; (repeat (first | with_reducible exact Pk.h | with_reducible apply Pk.t)); exact rfl) | ((with_reducible apply t_st); exact rfl; exact rfl; exact rfl; (repeat (first | with_reducible exact Pk.h | with_reducible apply Pk.t)); exact rfl; exact rfl; exact Nat.le_of_ble_eq_true rfl; exact rfl; (repeat (first | apply rk_nil | (apply rk_skip; exact rfl) | (apply rk_ld; exact rfl; (repeat (first | with_reducible exact Pk.h | with_reducible apply Pk.t)); exact rfl)))) | ((with_reducible apply t_nx F25.k); exact rfl; exact rfl) | with_reducible apply m_seq | (with_reducible apply m_reg mix) | with_reducible apply m_block | ((with_reducible apply m_ct); exact rfl) | ((with_reducible apply m_cf); exact rfl) | ((with_reducible apply m_skn); exact rfl) | ((with_reducible apply m_exn); exact rfl)))
        refine m_cond rfl (fun r1 => ?_) (fun r1 => ?_)
        · have hk' : k < i := by have := of_decide_eq_true r1; omega
          have hk2 : k < ws.length := by omega
          (repeat (first | ((with_reducible apply t_run); exact rfl) | ((with_reducible apply t_p); exact rfl; exact rfl) | ((with_reducible apply t_gr); exact rfl) | ((with_reducible apply t_ge); exact rfl) | ((with_reducible apply t_ld); exact rfl; exact rfl; (repeat (first | with_reducible exact Pk.h | with_reducible apply Pk.t)); exact rfl) | ((with_reducible apply t_st); exact rfl; exact rfl; exact rfl; (repeat (first | with_reducible exact Pk.h | with_reducible apply Pk.t)); exact rfl; exact rfl; exact Nat.le_of_ble_eq_true rfl; exact rfl; (repeat (first | apply rk_nil | (apply rk_skip; exact rfl) | (apply rk_ld; exact rfl; (repeat (first | with_reducible exact Pk.h | with_reducible apply Pk.t)); exact rfl)))) | ((with_reducible apply t_nx F25.k); exact rfl; exact rfl) | with_reducible apply m_seq | (with_reducible apply m_reg mix) | with_reducible apply m_block | ((with_reducible apply m_ct); exact rfl) | ((with_reducible apply m_cf); exact rfl) | ((with_reducible apply m_skn); exact rfl) | ((with_reducible apply m_exn); exact rfl)))
          refine t_ia k rfl rfl rfl hk2 ?_
          (repeat (first | ((with_reducible apply t_run); exact rfl) | ((with_reducible apply t_p); exact rfl; exact rfl) | ((with_reducible apply t_gr); exact rfl) | ((with_reducible apply t_ge); exact rfl) | ((with_reducible apply t_ld); exact rfl; exact rfl; (repeat (first | with_reducible exact Pk.h | with_reducible apply Pk.t)); exact rfl) | ((with_reducible apply t_st); exact rfl; exact rfl; exact rfl; (repeat (first | with_reducible exact Pk.h | with_reducible apply Pk.t)); exact rfl; exact rfl; exact Nat.le_of_ble_eq_true rfl; exact rfl; (repeat (first | apply rk_nil | (apply rk_skip; exact rfl) | (apply rk_ld; exact rfl; (repeat (first | with_reducible exact Pk.h | with_reducible apply Pk.t)); exact rfl)))) | ((with_reducible apply t_nx F25.k); exact rfl; exact rfl) | with_reducible apply m_seq | (with_reducible apply m_reg mix) | with_reducible apply m_block | ((with_reducible apply m_ct); exact rfl) | ((with_reducible apply m_cf); exact rfl) | ((with_reducible apply m_skn); exact rfl) | ((with_reducible apply m_exn); exact rfl)))
          refine t_la rfl rfl (R := R) (by repeat (first | with_reducible exact Pk.h | with_reducible apply Pk.t)) (key0 k hk2) ?_
          (repeat (first | ((with_reducible apply t_run); exact rfl) | ((with_reducible apply t_p); exact rfl; exact rfl) | ((with_reducible apply t_gr); exact rfl) | ((with_reducible apply t_ge); exact rfl) | ((with_reducible apply t_ld); exact rfl; exact rfl; (repeat (first | with_reducible exact Pk.h | with_reducible apply Pk.t)); exact rfl) | ((with_reducible apply t_st); exact rfl; exact rfl; exact rfl; (repeat (first | with_reducible exact Pk.h | with_reducible apply Pk.t)); exact rfl; exact rfl; exact Nat.le_of_ble_eq_true rfl; exact rfl; (repeat (first | apply rk_nil | (apply rk_skip; exact rfl) | (apply rk_ld; exact rfl; (repeat (first | with_reducible exact Pk.h | with_reducible apply Pk.t)); exact rfl)))) | ((with_reducible apply t_nx F25.k); exact rfl; exact rfl) | with_reducible apply m_seq | (with_reducible apply m_reg mix) | with_reducible apply m_block | ((with_reducible apply m_ct); exact rfl) | ((with_reducible apply m_cf); exact rfl) | ((with_reducible apply m_skn); exact rfl) | ((with_reducible apply m_exn); exact rfl)))
          refine t_ia i rfl rfl rfl hi' ?_
          (repeat (first | ((with_reducible apply t_run); exact rfl) | ((with_reducible apply t_p); exact rfl; exact rfl) | ((with_reducible apply t_gr); exact rfl) | ((with_reducible apply t_ge); exact rfl) | ((with_reducible apply t_ld); exact rfl; exact rfl; (repeat (first | with_reducible exact Pk.h | with_reducible apply Pk.t)); exact rfl) | ((with_reducible apply t_st); exact rfl; exact rfl; exact rfl; (repeat (first | with_reducible exact Pk.h | with_reducible apply Pk.t)); exact rfl; exact rfl; exact Nat.le_of_ble_eq_true rfl; exact rfl; (repeat (first | apply rk_nil | (apply rk_skip; exact rfl) | (apply rk_ld; exact rfl; (repeat (first | with_reducible exact Pk.h | with_reducible apply Pk.t)); exact rfl)))) | ((with_reducible apply t_nx F25.k); exact rfl; exact rfl) | with_reducible apply m_seq | (with_reducible apply m_reg mix) | with_reducible apply m_block | ((with_reducible apply m_ct); exact rfl) | ((with_reducible apply m_cf); exact rfl) | ((with_reducible apply m_skn); exact rfl) | ((with_reducible apply m_exn); exact rfl)))
          refine t_la rfl rfl (R := R) (by repeat (first | with_reducible exact Pk.h | with_reducible apply Pk.t)) hat0 ?_
          (repeat (first | ((with_reducible apply t_run); exact rfl) | ((with_reducible apply t_p); exact rfl; exact rfl) | ((with_reducible apply t_gr); exact rfl) | ((with_reducible apply t_ge); exact rfl) | ((with_reducible apply t_ld); exact rfl; exact rfl; (repeat (first | with_reducible exact Pk.h | with_reducible apply Pk.t)); exact rfl) | ((with_reducible apply t_st); exact rfl; exact rfl; exact rfl; (repeat (first | with_reducible exact Pk.h | with_reducible apply Pk.t)); exact rfl; exact rfl; exact Nat.le_of_ble_eq_true rfl; exact rfl; (repeat (first | apply rk_nil | (apply rk_skip; exact rfl) | (apply rk_ld; exact rfl; (repeat (first | with_reducible exact Pk.h | with_reducible apply Pk.t)); exact rfl)))) | ((with_reducible apply t_nx F25.k); exact rfl; exact rfl) | with_reducible apply m_seq | (with_reducible apply m_reg mix) | with_reducible apply m_block | ((with_reducible apply m_ct); exact rfl) | ((with_reducible apply m_cf); exact rfl) | ((with_reducible apply m_skn); exact rfl) | ((with_reducible apply m_exn); exact rfl)))
          have hst := hasK_step hk2 wk
          refine m_cond rfl (fun r2 => ?_) (fun r2 => ?_)
          · (repeat (first | ((with_reducible apply t_run); exact rfl) | ((with_reducible apply t_p); exact rfl; exact rfl) | ((with_reducible apply t_gr); exact rfl) | ((with_reducible apply t_ge); exact rfl) | ((with_reducible apply t_ld); exact rfl; exact rfl; (repeat (first | with_reducible exact Pk.h | with_reducible apply Pk.t)); exact rfl) | ((with_reducible apply t_st); exact rfl; exact rfl; exact rfl; (repeat (first | with_reducible exact Pk.h | with_reducible apply Pk.t)); exact rfl; exact rfl; exact Nat.le_of_ble_eq_true rfl; exact rfl; (repeat (first | apply rk_nil | (apply rk_skip; exact rfl) | (apply rk_ld; exact rfl; (repeat (first | with_reducible exact Pk.h | with_reducible apply Pk.t)); exact rfl)))) | ((with_reducible apply t_nx F25.k); exact rfl; exact rfl) | with_reducible apply m_seq | (with_reducible apply m_reg mix) | with_reducible apply m_block | ((with_reducible apply m_ct); exact rfl) | ((with_reducible apply m_cf); exact rfl) | ((with_reducible apply m_skn); exact rfl) | ((with_reducible apply m_exn); exact rfl)))
            rw [hfin (hm (show k + 1 ≤ i by omega) (by rw [hst, r2]; simp))]
            apply m_ret
            · rfl
            · (repeat (first | apply rs_nil | (apply rs_tmp; exact rfl) | (apply rs_cell; exact rfl; (repeat (first | with_reducible exact Pk.h | with_reducible apply Pk.t)); exact rfl)))
            · exact ⟨rfl, rfl⟩
            · exact (by repeat (first | apply Sx.nil | apply Pk.h | apply Sx.cons | apply Pk.t))
          · (repeat (first | ((with_reducible apply t_run); exact rfl) | ((with_reducible apply t_p); exact rfl; exact rfl) | ((with_reducible apply t_gr); exact rfl) | ((with_reducible apply t_ge); exact rfl) | ((with_reducible apply t_ld); exact rfl; exact rfl; (repeat (first | with_reducible exact Pk.h | with_reducible apply Pk.t)); exact rfl) | ((with_reducible apply t_st); exact rfl; exact rfl; exact rfl; (repeat (first | with_reducible exact Pk.h | with_reducible apply Pk.t)); exact rfl; exact rfl; exact Nat.le_of_ble_eq_true rfl; exact rfl; (repeat (first | apply rk_nil | (apply rk_skip; exact rfl) | (apply rk_ld; exact rfl; (repeat (first | with_reducible exact Pk.h | with_reducible apply Pk.t)); exact rfl)))) | ((with_reducible apply t_nx F25.k); exact rfl; exact rfl) | with_reducible apply m_seq | (with_reducible apply m_reg mix) | with_reducible apply m_block | ((with_reducible apply m_ct); exact rfl) | ((with_reducible apply m_cf); exact rfl) | ((with_reducible apply m_skn); exact rfl) | ((with_reducible apply m_exn); exact rfl)))
            refine t_meet rfl (k + 1) ⟨⟨hk', by rw [hst, hno, r2]; rfl⟩, by omega⟩ [4, 3, 0] ?_ (by repeat (first | apply Sx.nil | apply Pk.h | apply Sx.cons | apply Pk.t))
            rw [wrap_nat (by omega)]
            rfl
        · have hk' : k = i := by have := of_decide_eq_false r1; omega
          subst hk'
          rw [hgood, hno] at ho
          simp only [Bool.not_false, Bool.and_self, Bool.true_and] at ho
          (repeat (first | ((with_reducible apply t_run); exact rfl) | ((with_reducible apply t_p); exact rfl; exact rfl) | ((with_reducible apply t_gr); exact rfl) | ((with_reducible apply t_ge); exact rfl) | ((with_reducible apply t_ld); exact rfl; exact rfl; (repeat (first | with_reducible exact Pk.h | with_reducible apply Pk.t)); exact rfl) | ((with_reducible apply t_st); exact rfl; exact rfl; exact rfl; (repeat (first | with_reducible exact Pk.h | with_reducible apply Pk.t)); exact rfl; exact rfl; exact Nat.le_of_ble_eq_true rfl; exact rfl; (repeat (first | apply rk_nil | (apply rk_skip; exact rfl) | (apply rk_ld; exact rfl; (repeat (first | with_reducible exact Pk.h | with_reducible apply Pk.t)); exact rfl)))) | ((with_reducible apply t_nx F25.k); exact rfl; exact rfl) | with_reducible apply m_seq | (with_reducible apply m_reg mix) | with_reducible apply m_block | ((with_reducible apply m_ct); exact rfl) | ((with_reducible apply m_cf); exact rfl) | ((with_reducible apply m_skn); exact rfl) | ((with_reducible apply m_exn); exact rfl)))
          refine t_meet rfl (k + 1) ⟨⟨hi', ho⟩, by omega⟩ [3, 0] ?_ (by repeat (first | apply Sx.nil | apply Pk.h | apply Sx.cons | apply Pk.t))
          rw [wrap_nat (by omega)]
          rfl
      | true =>
        (repeat (first | ((with_reducible apply t_run); exact rfl) | ((with_reducible apply t_p); exact rfl; exact rfl) | ((with_reducible apply t_gr); exact rfl) | ((with_reducible apply t_ge); exact rfl) | ((with_reducible apply t_ld); exact rfl; exact rfl; (repeat (first | with_reducible exact Pk.h | with_reducible apply Pk.t)); exact rfl) | ((with_reducible apply t_st); exact rfl; exact rfl; exact rfl; (repeat (first | with_reducible exact Pk.h | with_reducible apply Pk.t)); exact rfl; exact rfl; exact Nat.le_of_ble_eq_true rfl; exact rfl; (repeat (first | apply rk_nil | (apply rk_skip; exact rfl) | (apply rk_ld; exact rfl; (repeat (first | with_reducible exact Pk.h | with_reducible apply Pk.t)); exact rfl)))) | ((with_reducible apply t_nx F25.k); exact rfl; exact rfl) | with_reducible apply m_seq | (with_reducible apply m_reg mix) | with_reducible apply m_block | ((with_reducible apply m_ct); exact rfl) | ((with_reducible apply m_cf); exact rfl) | ((with_reducible apply m_skn); exact rfl) | ((with_reducible apply m_exn); exact rfl)))
        refine t_ia i rfl rfl rfl hi' ?_
        (repeat (first | ((with_reducible apply t_run); exact rfl) | ((with_reducible apply t_p); exact rfl; exact rfl) | ((with_reducible apply t_gr); exact rfl) | ((with_reducible apply t_ge); exact rfl) | ((with_reducible apply t_ld); exact rfl; exact rfl; (repeat (first | with_reducible exact Pk.h | with_reducible apply Pk.t)); exact rfl) | ((with_reducible apply t_st); exact rfl; exact rfl; exact rfl; (repeat (first | with_reducible exact Pk.h | with_reducible apply Pk.t)); exact rfl; exact rfl; exact Nat.le_of_ble_eq_true rfl; exact rfl; (repeat (first | apply rk_nil | (apply rk_skip; exact rfl) | (apply rk_ld; exact rfl; (repeat (first | with_reducible exact Pk.h | with_reducible apply Pk.t)); exact rfl)))) | ((with_reducible apply t_nx F25.k); exact rfl; exact rfl) | with_reducible apply m_seq | (with_reducible apply m_reg mix) | with_reducible apply m_block | ((with_reducible apply m_ct); exact rfl) | ((with_reducible apply m_cf); exact rfl) | ((with_reducible apply m_skn); exact rfl) | ((with_reducible apply m_exn); exact rfl)))
        refine t_la rfl rfl (R := R) (by repeat (first | with_reducible exact Pk.h | with_reducible apply Pk.t)) hat1 ?_
        (repeat (first | ((with_reducible apply t_run); exact rfl) | ((with_reducible apply t_p); exact rfl; exact rfl) | ((with_reducible apply t_gr); exact rfl) | ((with_reducible apply t_ge); exact rfl) | ((with_reducible apply t_ld); exact rfl; exact rfl; (repeat (first | with_reducible exact Pk.h | with_reducible apply Pk.t)); exact rfl) | ((with_reducible apply t_st); exact rfl; exact rfl; exact rfl; (repeat (first | with_reducible exact Pk.h | with_reducible apply Pk.t)); exact rfl; exact rfl; exact Nat.le_of_ble_eq_true rfl; exact rfl; (repeat (first | apply rk_nil | (apply rk_skip; exact rfl) | (apply rk_ld; exact rfl; (repeat (first | with_reducible exact Pk.h | with_reducible apply Pk.t)); exact rfl)))) | ((with_reducible apply t_nx F25.k); exact rfl; exact rfl) | with_reducible apply m_seq | (with_reducible apply m_reg mix) | with_reducible apply m_block | ((with_reducible apply m_ct); exact rfl) | ((with_reducible apply m_cf); exact rfl) | ((with_reducible apply m_skn); exact rfl) | ((with_reducible apply m_exn); exact rfl)))
        refine m_cond rfl (fun p3 => ?_) (fun p3 => ?_)
        · have p3' : decide (wv = emp) = false := by rw [Bool.not_eq_true'] at p3; exact p3
          (repeat (first | ((with_reducible apply t_run); exact rfl) | ((with_reducible apply t_p); exact rfl; exact rfl) | ((with_reducible apply t_gr); exact rfl) | ((with_reducible apply t_ge); exact rfl) | ((with_reducible apply t_ld); exact rfl; exact rfl; (repeat (first | with_reducible exact Pk.h | with_reducible apply Pk.t)); exact rfl) | ((with_reducible apply t_st); exact rfl; exact rfl; exact rfl; (repeat (first | with_reducible exact Pk.h | with_reducible apply Pk.t)); exact rfl; exact rfl; exact Nat.le_of_ble_eq_true rfl; exact rfl; (repeat (first | apply rk_nil | (apply rk_skip; exact rfl) | (apply rk_ld; exact rfl; (repeat (first | with_reducible exact Pk.h | with_reducible apply Pk.t)); exact rfl)))) | ((with_reducible apply t_nx F25.k); exact rfl; exact rfl) | with_reducible apply m_seq | (with_reducible apply m_reg mix) | with_reducible apply m_block | ((with_reducible apply m_ct); exact rfl) | ((with_reducible apply m_cf); exact rfl) | ((with_reducible apply m_skn); exact rfl) | ((with_reducible apply m_exn); exact rfl)))
          rw [hbad (by rw [hok0, p1', p2', p3']; rfl)]
          apply m_ret
          · rfl
          · (repeat (first | apply rs_nil | (apply rs_tmp; exact rfl) | (apply rs_cell; exact rfl; (repeat (first | with_reducible exact Pk.h | with_reducible apply Pk.t)); exact rfl)))
          · exact ⟨rfl, rfl⟩
          · exact (by repeat (first | apply Sx.nil | apply Pk.h | apply Sx.cons | apply Pk.t))
        have p3' : decide (wv = emp) = true := by rw [Bool.not_eq_false'] at p3; exact p3
        (repeat (first | ((with_reducible apply t_run); exact rfl) | ((with_reducible apply t_p); exact rfl; exact rfl) | ((with_reducible apply t_gr); exact rfl) | ((with_reducible apply t_ge); exact rfl) | ((with_reducible apply t_ld); exact rfl; exact rfl; (repeat (first | with_reducible exact Pk.h | with_reducible apply Pk.t)); exact rfl) | ((with_reducible apply t_st); exact rfl; exact rfl; exact rfl; (repeat (first | with_reducible exact Pk.h | with_reducible apply Pk.t)); exact rfl; exact rfl; exact Nat.le_of_ble_eq_true rfl; exact rfl; (repeat (first | apply rk_nil | (apply rk_skip; exact rfl) | (apply rk_ld; exact rfl; (repeat (first | with_reducible exact Pk.h | with_reducible apply Pk.t)); exact rfl)))) | ((with_reducible apply t_nx F25.k); exact rfl; exact rfl) | with_reducible apply m_seq | (with_reducible apply m_reg mix) | with_reducible apply m_block | ((with_reducible apply m_ct); exact rfl) | ((with_reducible apply m_cf); exact rfl) | ((with_reducible apply m_skn); exact rfl) | ((with_reducible apply m_exn); exact rfl)))
        have hgood : okW0 ⟨wk, wv, true⟩ = true := by rw [hok0, p1', p2', p3']; rfl
        refine m_lp (α := Nat) (fun k => [(4, .int .i64 (k : Nat)), (3, .int .i64 (i : Nat)), (0, .slice (some ⟨b, o, none⟩) ws.length c)]) (fun _ => [R, X]) (fun k => k ≤ i ∧ hasK (keysL (ws.take k)) wk = false) (fun k => i - k) ?_ 0 ⟨by omega, rfl⟩ [4, 3, 0] rfl (by repeat (first | apply Sx.nil | apply Pk.h | apply Sx.cons | apply Pk.t))
        rintro k ⟨hk, hno⟩
        (repeat (first | ((with_reducible apply t_run); exact rfl) | ((with_reducible apply t_p); exact rfl; exact rfl) | ((with_reducible apply t_gr); exact rfl) | ((with_reducible apply t_ge); exact rfl) | ((with_reducible apply t_ld); exact rfl; exact rfl; (repeat (first | with_reducible exact Pk.h | with_reducible apply Pk.t)); exact rfl) | ((with_reducible apply t_st); exact rfl; exact rfl; exact rfl; (repeat (first | with_reducible exact Pk.h | with_reducible apply Pk.t)); exact rfl; exact rfl; exact Nat.le_of_ble_eq_true rfl; exact rfl; (repeat (first | apply rk_nil | (apply rk_skip; exact rfl) | (apply rk_ld; exact rfl; (repeat (first | with_reducible exact Pk.h | with_reducible apply Pk.t)); exact rfl)))) | ((with_reducible apply t_nx F25.k); exact rfl; exact rfl) | with_reducible apply m_seq | (with_reducible apply m_reg mix) | with_reducible apply m_block | ((with_reducible apply m_ct); exact rfl) | ((with_reducible apply m_cf); exact rfl) | ((with_reducible apply m_skn); exact rfl) | ((with_reducible apply m_exn); exact rfl)))
        refine m_cond rfl (fun r1 => ?_) (fun r1 => ?_)
        · have hk' : k < i := by have := of_decide_eq_true r1; omega
          have hk2 : k < ws.length := by omega
          (repeat (first | ((with_reducible apply t_run); exact rfl) | ((with_reducible apply t_p); exact rfl; exact rfl) | ((with_reducible apply t_gr); exact rfl) | ((with_reducible apply t_ge); exact rfl) | ((with_reducible apply t_ld); exact rfl; exact rfl; (repeat (first | with_reducible exact Pk.h | with_reducible apply Pk.t)); exact rfl) | ((with_reducible apply t_st); exact rfl; exact rfl; exact rfl; (repeat (first | with_reducible exact Pk.h | with_reducible apply Pk.t)); exact rfl; exact rfl; exact Nat.le_of_ble_eq_true rfl; exact rfl; (repeat (first | apply rk_nil | (apply rk_skip; exact rfl) | (apply rk_ld; exact rfl; (repeat (first | with_reducible exact Pk.h | with_reducible apply Pk.t)); exact rfl)))) | ((with_reducible apply t_nx F25.k); exact rfl; exact rfl) | with_reducible apply m_seq | (with_reducible apply m_reg mix) | with_reducible apply m_block | ((with_reducible apply m_ct); exact rfl) | ((with_reducible apply m_cf); exact rfl) | ((with_reducible apply m_skn); exact rfl) | ((with_reducible apply m_exn); exact rfl)))
          refine t_ia k rfl rfl rfl hk2 ?_
          (repeat (first | ((with_reducible apply t_run); exact rfl) | ((with_reducible apply t_p); exact rfl; exact rfl) | ((with_reducible apply t_gr); exact rfl) | ((with_reducible apply t_ge); exact rfl) | ((with_reducible apply t_ld); exact rfl; exact rfl; (repeat (first | with_reducible exact Pk.h | with_reducible apply Pk.t)); exact rfl) | ((with_reducible apply t_st); exact rfl; exact rfl; exact rfl; (repeat (first | with_reducible exact Pk.h | with_reducible apply Pk.t)); exact rfl; exact rfl; exact Nat.le_of_ble_eq_true rfl; exact rfl; (repeat (first | apply rk_nil | (apply rk_skip; exact rfl) | (apply rk_ld; exact rfl; (repeat (first | with_reducible exact Pk.h | with_reducible apply Pk.t)); exact rfl)))) | ((with_reducible apply t_nx F25.k); exact rfl; exact rfl) | with_reducible apply m_seq | (with_reducible apply m_reg mix) | with_reducible apply m_block | ((with_reducible apply m_ct); exact rfl) | ((with_reducible apply m_cf); exact rfl) | ((with_reducible apply m_skn); exact rfl) | ((with_reducible apply m_exn); exact rfl)))
          refine t_la rfl rfl (R := R) (by repeat (first | with_reducible exact Pk.h | with_reducible apply Pk.t)) (key0 k hk2) ?_
          (repeat (first | ((with_reducible apply t_run); exact rfl) | ((with_reducible apply t_p); exact rfl; exact rfl) | ((with_reducible apply t_gr); exact rfl) | ((with_reducible apply t_ge); exact rfl) | ((with_reducible apply t_ld); exact rfl; exact rfl; (repeat (first | with_reducible exact Pk.h | with_reducible apply Pk.t)); exact rfl) | ((with_reducible apply t_st); exact rfl; exact rfl; exact rfl; (repeat (first | with_reducible exact Pk.h | with_reducible apply Pk.t)); exact rfl; exact rfl; exact Nat.le_of_ble_eq_true rfl; exact rfl; (repeat (first | apply rk_nil | (apply rk_skip; exact rfl) | (apply rk_ld; exact rfl; (repeat (first | with_reducible exact Pk.h | with_reducible apply Pk.t)); exact rfl)))) | ((with_reducible apply t_nx F25.k); exact rfl; exact rfl) | with_reducible apply m_seq | (with_reducible apply m_reg mix) | with_reducible apply m_block | ((with_reducible apply m_ct); exact rfl) | ((with_reducible apply m_cf); exact rfl) | ((with_reducible apply m_skn); exact rfl) | ((with_reducible apply m_exn); exact rfl)))
          refine t_ia i rfl rfl rfl hi' ?_
          (repeat (first | ((with_reducible apply t_run); exact rfl) | ((with_reducible apply t_p); exact rfl; exact rfl) | ((with_reducible apply t_gr); exact rfl) | ((with_reducible apply t_ge); exact rfl) | ((with_reducible apply t_ld); exact rfl; exact rfl; (repeat (first | with_reducible exact Pk.h | with_reducible apply Pk.t)); exact rfl) | ((with_reducible apply t_st); exact rfl; exact rfl; exact rfl; (repeat (first | with_reducible exact Pk.h | with_reducible apply Pk.t)); exact rfl; exact rfl; exact Nat.le_of_ble_eq_true rfl; exact rfl; (repeat (first | apply rk_nil | (apply rk_skip; exact rfl) | (apply rk_ld; exact rfl; (repeat (first | with_reducible exact Pk.h | with_reducible apply Pk.t)); exact rfl)))) | ((with_reducible apply t_nx F25.k); exact rfl; exact rfl) | with_reducible apply m_seq | (with_reducible apply m_reg mix) | with_reducible apply m_block | ((with_reducible apply m_ct); exact rfl) | ((with_reducible apply m_cf); exact rfl) | ((with_reducible apply m_skn); exact rfl) | ((with_reducible apply m_exn); exact rfl)))
          refine t_la rfl rfl (R := R) (by repeat (first | with_reducible exact Pk.h | with_reducible apply Pk.t)) hat0 ?_
          (repeat (first | ((with_reducible apply t_run); exact rfl) | ((with_reducible apply t_p); exact rfl; exact rfl) | ((with_reducible apply t_gr); exact rfl) | ((with_reducible apply t_ge); exact rfl) | ((with_reducible apply t_ld); exact rfl; exact rfl; (repeat (first | with_reducible exact Pk.h | with_reducible apply Pk.t)); exact rfl) | ((with_reducible apply t_st); exact rfl; exact rfl; exact rfl; (repeat (first | with_reducible exact Pk.h | with_reducible apply Pk.t)); exact rfl; exact rfl; exact Nat.le_of_ble_eq_true rfl; exact rfl; (repeat (first | apply rk_nil | (apply rk_skip; exact rfl) | (apply rk_ld; exact rfl; (repeat (first | with_reducible exact Pk.h | with_reducible apply Pk.t)); exact rfl)))) | ((with_reducible apply t_nx F25.k); exact rfl; exact rfl) | with_reducible apply m_seq | (with_reducible apply m_reg mix) | with_reducible apply m_block | ((with_reducible apply m_ct); exact rfl) | ((with_reducible apply m_cf); exact rfl) | ((with_reducible apply m_skn); exact rfl) | ((with_reducible apply m_exn); exact rfl)))
          have hst := hasK_step hk2 wk
          refine m_cond rfl (fun r2 => ?_) (fun r2 => ?_)
          · (repeat (first | ((with_reducible apply t_run); exact rfl) | ((with_reducible apply t_p); exact rfl; exact rfl) | ((with_reducible apply t_gr); exact rfl) | ((with_reducible apply t_ge); exact rfl) | ((with_reducible apply t_ld); exact rfl; exact rfl; (repeat (first | with_reducible exact Pk.h | with_reducible apply Pk.t)); exact rfl) | ((with_reducible apply t_st); exact rfl; exact rfl; exact rfl; (repeat (first | with_reducible exact Pk.h | with_reducible apply Pk.t)); exact rfl; exact rfl; exact Nat.le_of_ble_eq_true rfl; exact rfl; (repeat (first | apply rk_nil | (apply rk_skip; exact rfl) | (apply rk_ld; exact rfl; (repeat (first | with_reducible exact Pk.h | with_reducible apply Pk.t)); exact rfl)))) | ((with_reducible apply t_nx F25.k); exact rfl; exact rfl) | with_reducible apply m_seq | (with_reducible apply m_reg mix) | with_reducible apply m_block | ((with_reducible apply m_ct); exact rfl) | ((with_reducible apply m_cf); exact rfl) | ((with_reducible apply m_skn); exact rfl) | ((with_reducible apply m_exn); exact rfl)))
            rw [hfin (hm (show k + 1 ≤ i by omega) (by rw [hst, r2]; simp))]
            apply m_ret
            · rfl
            · (repeat (first | apply rs_nil | (apply rs_tmp; exact rfl) | (apply rs_cell; exact rfl; (repeat (first | with_reducible exact Pk.h | with_reducible apply Pk.t)); exact rfl)))
            · exact ⟨rfl, rfl⟩
            · exact (by repeat (first | apply Sx.nil | apply Pk.h | apply Sx.cons | apply Pk.t))
          · (repeat (first | ((with_reducible apply t_run); exact rfl) | ((with_reducible apply t_p); exact rfl; exact rfl) | ((with_reducible apply t_gr); exact rfl) | ((with_reducible apply t_ge); exact rfl) | ((with_reducible apply t_ld); exact rfl; exact rfl; (repeat (first | with_reducible exact Pk.h | with_reducible apply Pk.t)); exact rfl) | ((with_reducible apply t_st); exact rfl; exact rfl; exact rfl; (repeat (first | with_reducible exact Pk.h | with_reducible apply Pk.t)); exact rfl; exact rfl; exact Nat.le_of_ble_eq_true rfl; exact rfl; (repeat (first | apply rk_nil | (apply rk_skip; exact rfl) | (apply rk_ld; exact rfl; (repeat (first | with_reducible exact Pk.h | with_reducible apply Pk.t)); exact rfl)))) | ((with_reducible apply t_nx F25.k); exact rfl; exact rfl) | with_reducible apply m_seq | (with_reducible apply m_reg mix) | with_reducible apply m_block | ((with_reducible apply m_ct); exact rfl) | ((with_reducible apply m_cf); exact rfl) | ((with_reducible apply m_skn); exact rfl) | ((with_reducible apply m_exn); exact rfl)))
            refine t_meet rfl (k + 1) ⟨⟨hk', by rw [hst, hno, r2]; rfl⟩, by omega⟩ [4, 3, 0] ?_ (by repeat (first | apply Sx.nil | apply Pk.h | apply Sx.cons | apply Pk.t))
            rw [wrap_nat (by omega)]
            rfl
        · have hk' : k = i := by have := of_decide_eq_false r1; omega
          subst hk'
          rw [hgood, hno] at ho
          simp only [Bool.not_false, Bool.and_self, Bool.true_and] at ho
          (repeat (first | ((with_reducible apply t_run); exact rfl) | ((with_reducible apply t_p); exact rfl; exact rfl) | ((with_reducible apply t_gr); exact rfl) | ((with_reducible apply t_ge); exact rfl) | ((with_reducible apply t_ld); exact rfl; exact rfl; (repeat (first | with_reducible exact Pk.h | with_reducible apply Pk.t)); exact rfl) | ((with_reducible apply t_st); exact rfl; exact rfl; exact rfl; (repeat (first | with_reducible exact Pk.h | with_reducible apply Pk.t)); exact rfl; exact rfl; exact Nat.le_of_ble_eq_true rfl; exact rfl; (repeat (first | apply rk_nil | (apply rk_skip; exact rfl) | (apply rk_ld; exact rfl; (repeat (first | with_reducible exact Pk.h | with_reducible apply Pk.t)); exact rfl)))) | ((with_reducible apply t_nx F25.k); exact rfl; exact rfl) | with_reducible apply m_seq | (with_reducible apply m_reg mix) | with_reducible apply m_block | ((with_reducible apply m_ct); exact rfl) | ((with_reducible apply m_cf); exact rfl) | ((with_reducible apply m_skn); exact rfl) | ((with_reducible apply m_exn); exact rfl)))
          refine t_meet rfl (k + 1) ⟨⟨hi', ho⟩, by omega⟩ [3, 0] ?_ (by repeat (first | apply Sx.nil | apply Pk.h | apply Sx.cons | apply Pk.t))
          rw [wrap_nat (by omega)]
          rfl
    · have hi' : i = ws.length := by have := of_decide_eq_false q; omega
      subst hi'
      rw [List.drop_length] at ho
      refine m_emeet (α := Unit) rfl () (by exact ho.symm) [0] rfl (by repeat (first | apply Sx.nil | apply Pk.h | apply Sx.cons | apply Pk.t))
  rintro _ hc
  rw [hc]
  (repeat (first | ((with_reducible apply t_run); exact rfl) | ((with_reducible apply t_p); exact rfl; exact rfl) | ((with_reducible apply t_gr); exact rfl) | ((with_reducible apply t_ge); exact rfl) | ((with_reducible apply t_ld); exact rfl; exact rfl; (repeat (first | with_reducible exact Pk.h | with_reducible apply Pk.t)); exact rfl) | ((with_reducible apply t_st); exact rfl; exact rfl; exact rfl; (repeat (first | with_reducible exact Pk.h | with_reducible apply Pk.t)); exact rfl; exact rfl; exact Nat.le_of_ble_eq_true rfl; exact rfl; (repeat (first | apply rk_nil | (apply rk_skip; exact rfl) | (apply rk_ld; exact rfl; (repeat (first | with_reducible exact Pk.h | with_reducible apply Pk.t)); exact rfl)))) | ((with_reducible apply t_nx F25.k); exact rfl; exact rfl) | with_reducible apply m_seq | (with_reducible apply m_reg mix) | with_reducible apply m_block | ((with_reducible apply m_ct); exact rfl) | ((with_reducible apply m_cf); exact rfl) | ((with_reducible apply m_skn); exact rfl) | ((with_reducible apply m_exn); exact rfl)))
  refine t_spl 61 rfl (fun q => ?_) (fun q => ?_)
  · (repeat (first | ((with_reducible apply t_run); exact rfl) | ((with_reducible apply t_p); exact rfl; exact rfl) | ((with_reducible apply t_gr); exact rfl) | ((with_reducible apply t_ge); exact rfl) | ((with_reducible apply t_ld); exact rfl; exact rfl; (repeat (first | with_reducible exact Pk.h | with_reducible apply Pk.t)); exact rfl) | ((with_reducible apply t_st); exact rfl; exact rfl; exact rfl; (repeat (first | with_reducible exact Pk.h | with_reducible apply Pk.t)); exact rfl; exact rfl; exact Nat.le_of_ble_eq_true rfl; exact rfl; (repeat (first | apply rk_nil | (apply rk_skip; exact rfl) | (apply rk_ld; exact rfl; (repeat (first | with_reducible exact Pk.h | with_reducible apply Pk.t)); exact rfl)))) | ((with_reducible apply t_nx F25.k); exact rfl; exact rfl) | with_reducible apply m_seq | (with_reducible apply m_reg mix) | with_reducible apply m_block | ((with_reducible apply m_ct); exact rfl) | ((with_reducible apply m_cf); exact rfl) | ((with_reducible apply m_skn); exact rfl) | ((with_reducible apply m_exn); exact rfl)))
    apply m_ret
    · rfl
    · (repeat (first | apply rs_nil | (apply rs_tmp; exact rfl) | (apply rs_cell; exact rfl; (repeat (first | with_reducible exact Pk.h | with_reducible apply Pk.t)); exact rfl)))
    · exact ⟨by rw [q]; rfl, rfl⟩
    · exact (by repeat (first | apply Sx.nil | apply Pk.h | apply Sx.cons | apply Pk.t))
  · (repeat (first | ((with_reducible apply t_run); exact rfl) | ((with_reducible apply t_p); exact rfl; exact rfl) | ((with_reducible apply t_gr); exact rfl) | ((with_reducible apply t_ge); exact rfl) | ((with_reducible apply t_ld); exact rfl; exact rfl; (repeat (first | with_reducible exact Pk.h | with_reducible apply Pk.t)); exact rfl) | ((with_reducible apply t_st); exact rfl; exact rfl; exact rfl; (repeat (first | with_reducible exact Pk.h | with_reducible apply Pk.t)); exact rfl; exact rfl; exact Nat.le_of_ble_eq_true rfl; exact rfl; (repeat (first | apply rk_nil | (apply rk_skip; exact rfl) | (apply rk_ld; exact rfl; (repeat (first | with_reducible exact Pk.h | with_reducible apply Pk.t)); exact rfl)))) | ((with_reducible apply t_nx F25.k); exact rfl; exact rfl) | with_reducible apply m_seq | (with_reducible apply m_reg mix) | with_reducible apply m_block | ((with_reducible apply m_ct); exact rfl) | ((with_reducible apply m_cf); exact rfl) | ((with_reducible apply m_skn); exact rfl) | ((with_reducible apply m_exn); exact rfl)))
    apply m_ret
    · rfl
    · (repeat (first | apply rs_nil | (apply rs_tmp; exact rfl) | (apply rs_cell; exact rfl; (repeat (first | with_reducible exact Pk.h | with_reducible apply Pk.t)); exact rfl)))
    · exact ⟨by rw [q]; rfl, rfl⟩
    · exact (by repeat (first | apply Sx.nil | apply Pk.h | apply Sx.cons | apply Pk.t))
end Go.Proofs.Ythcbefkgfhokoaa
