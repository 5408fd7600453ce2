/- The plain form of functions of the program (printed by a program of this session). -/
import Derived.Test.YthcbefkgfhokoaaProg
import Derived.Test.YthcbefkgfhokoaaFwE
import Derived.KernelRfl
set_option maxRecDepth 100000
namespace Go.Proofs.Ythcbefkgfhokoaa
open Go Go.Dv

/- (*dovecote.order.node[dovecote.latch.owner]).height -/
def F78 : MF := ⟨9, [(2, none)],
  .seq (.reg <| .rd (some 2) none none (.mv (.const (.int .i64 0))) <|
    .done) <|
  .seq (.seq (.reg <| .rd (some 3) none none (.mv (.tmp 0)) <|
    .rd (some 4) none none (.eqn 4 false (.tmp 3) (.const (.pointer none))) <|
    .done) <|
  .cond (.tmp 4) (.seq (.reg <| .rd (some 2) none none (.mv (.const (.int .i64 0))) <|
    .done) <|
  .ret) <|
  .skip) <|
  .seq (.reg <| .rd (some 5) none none (.mv (.tmp 0)) <|
    .rd (some 6) none none (.nz (.tmp 5)) <|
    .rd (some 7) none none (.fa 6 (.tmp 6)) <|
    .rd (some 8) none none (.ld none (.tmp 7)) <|
    .rd (some 2) none none (.mv (.tmp 8)) <|
    .done) <|
  .ret⟩
def F78.k : List Nat := [0, 2, 4]
theorem F78.ok : trF Try.prog 78 = some F78 := by kernel_rfl

/- (*dovecote.order.node[dovecote.latch.owner]).measure -/
def F77 : MF := ⟨17, [],
  .reg <| .rd (some 2) none none (.mv (.tmp 0)) <|
    .rd (some 3) none none (.mv (.tmp 0)) <|
    .rd (some 4) none none (.nz (.tmp 3)) <|
    .rd (some 5) none none (.fa 7 (.tmp 4)) <|
    .rd (some 6) none (some 33824) (.ld none (.tmp 5)) <|
    .rd (some 8) none none (.mv (.tmp 0)) <|
    .rd (some 9) none none (.nz (.tmp 8)) <|
    .rd (some 10) none none (.fa 8 (.tmp 9)) <|
    .rd (some 11) none (some 33792) (.ld none (.tmp 10)) <|
    .ef (some 7) none 5 (.cl 78 [(.tmp 6)]) <|
    .ef (some 12) none 10 (.cl 78 [(.tmp 11)]) <|
    .rd (some 13) none none (.mm true (.tmp 7) (.tmp 12)) <|
    .rd (some 14) none none (.bin .add (.const (.int .i64 1)) (.tmp 13)) <|
    .rd (some 15) none none (.nz (.tmp 2)) <|
    .rd (some 16) none none (.fa 6 (.tmp 15)) <|
    .ef none none 15 (.st 1 (.tmp 16) (.tmp 14)) <|
    .done⟩
def F77.k : List Nat := [0]
theorem F77.ok : trF Try.prog 77 = some F77 := by kernel_rfl

/- (*dovecote.order.node[dovecote.latch.owner]).turned -/
def F79 : MF := ⟨42, [(4, none)],
  .seq (.reg <| .rd (some 4) none none (.mv (.const (.pointer none))) <|
    .done) <|
  .seq (.reg <| .rd (some 5) none none (.mv (.const (.pointer none))) <|
    .done) <|
  .seq (.seq (.reg <| .rd (some 6) none none (.mv (.tmp 1)) <|
    .done) <|
  .cond (.tmp 6) (.seq (.reg <| .rd (some 7) none none (.mv (.tmp 0)) <|
    .rd (some 8) none none (.nz (.tmp 7)) <|
    .rd (some 9) none none (.fa 7 (.tmp 8)) <|
    .rd (some 10) none none (.ld none (.tmp 9)) <|
    .rd (some 5) none none (.mv (.tmp 10)) <|
    .done) <|
  .reg <| .rd (some 11) none none (.mv (.tmp 0)) <|
    .rd (some 12) none none (.mv (.tmp 5)) <|
    .rd (some 13) none none (.mv (.tmp 5)) <|
    .rd (some 14) none none (.nz (.tmp 13)) <|
    .rd (some 15) none none (.fa 8 (.tmp 14)) <|
    .rd (some 16) none none (.ld none (.tmp 15)) <|
    .rd (some 17) none none (.mv (.tmp 0)) <|
    .rd (some 18) none none (.nz (.tmp 11)) <|
    .rd (some 19) none none (.fa 7 (.tmp 18)) <|
    .ef none none 0 (.st 1 (.tmp 19) (.tmp 16)) <|
    .rd (some 20) none none (.nz (.tmp 12)) <|
    .rd (some 21) none none (.fa 8 (.tmp 20)) <|
    .ef none none 0 (.st 1 (.tmp 21) (.tmp 17)) <|
    .done) <|
  .seq (.reg <| .rd (some 22) none none (.mv (.tmp 0)) <|
    .rd (some 23) none none (.nz (.tmp 22)) <|
    .rd (some 24) none none (.fa 8 (.tmp 23)) <|
    .rd (some 25) none none (.ld none (.tmp 24)) <|
    .rd (some 5) none none (.mv (.tmp 25)) <|
    .done) <|
  .reg <| .rd (some 26) none none (.mv (.tmp 0)) <|
    .rd (some 27) none none (.mv (.tmp 5)) <|
    .rd (some 28) none none (.mv (.tmp 5)) <|
    .rd (some 29) none none (.nz (.tmp 28)) <|
    .rd (some 30) none none (.fa 7 (.tmp 29)) <|
    .rd (some 31) none none (.ld none (.tmp 30)) <|
    .rd (some 32) none none (.mv (.tmp 0)) <|
    .rd (some 33) none none (.nz (.tmp 26)) <|
    .rd (some 34) none none (.fa 8 (.tmp 33)) <|
    .ef none none 0 (.st 1 (.tmp 34) (.tmp 31)) <|
    .rd (some 35) none none (.nz (.tmp 27)) <|
    .rd (some 36) none none (.fa 7 (.tmp 35)) <|
    .ef none none 0 (.st 1 (.tmp 36) (.tmp 32)) <|
    .done) <|
  .seq (.reg <| .rd (some 37) none none (.mv (.tmp 0)) <|
    .ef (some 38) none 0 (.cl 77 [(.tmp 37)]) <|
    .done) <|
  .seq (.reg <| .rd (some 39) none none (.mv (.tmp 5)) <|
    .ef (some 40) none 0 (.cl 77 [(.tmp 39)]) <|
    .done) <|
  .seq (.reg <| .rd (some 41) none none (.mv (.tmp 5)) <|
    .rd (some 4) none none (.mv (.tmp 41)) <|
    .done) <|
  .ret⟩
def F79.k : List Nat := [0, 1, 4, 5, 6]
theorem F79.ok : trF Try.prog 79 = some F79 := by kernel_rfl

/- (*dovecote.order.node[dovecote.latch.owner]).even -/
def F68 : MF := ⟨78, [(2, none)],
  .seq (.reg <| .rd (some 2) none none (.mv (.const (.pointer none))) <|
    .done) <|
  .seq (.reg <| .rd (some 4) none none (.mv (.tmp 0)) <|
    .ef (some 5) none 0 (.cl 77 [(.tmp 4)]) <|
    .done) <|
  .seq (.seq (.reg <| .rd (some 6) none none (.mv (.tmp 0)) <|
    .rd (some 7) none none (.nz (.tmp 6)) <|
    .rd (some 8) none none (.fa 7 (.tmp 7)) <|
    .rd (some 9) none (some 528) (.ld none (.tmp 8)) <|
    .rd (some 11) none none (.mv (.tmp 0)) <|
    .rd (some 12) none none (.nz (.tmp 11)) <|
    .rd (some 13) none none (.fa 8 (.tmp 12)) <|
    .rd (some 14) none (some 512) (.ld none (.tmp 13)) <|
    .ef (some 10) none 4 (.cl 78 [(.tmp 9)]) <|
    .ef (some 15) none 9 (.cl 78 [(.tmp 14)]) <|
    .rd (some 16) none none (.bin .sub (.tmp 10) (.tmp 15)) <|
    .rd (some 3) none none (.mv (.tmp 16)) <|
    .done) <|
  .block 0 <|
  .seq (.reg <| .rd (some 18) none none (.mv (.tmp 3)) <|
    .rd (some 19) none none (.bin .gtr (.tmp 18) (.const (.int .i64 1))) <|
    .rd (some 17) none none (.mv (.tmp 19)) <|
    .done) <|
  .cond (.tmp 17) (.seq (.seq (.reg <| .rd (some 20) none none (.mv (.tmp 0)) <|
    .rd (some 21) none none (.nz (.tmp 20)) <|
    .rd (some 22) none none (.fa 7 (.tmp 21)) <|
    .rd (some 23) none (some 32896) (.ld none (.tmp 22)) <|
    .rd (some 24) none none (.nz (.tmp 23)) <|
    .rd (some 25) none none (.fa 7 (.tmp 24)) <|
    .rd (some 26) none (some 32896) (.ld none (.tmp 25)) <|
    .rd (some 28) none none (.mv (.tmp 0)) <|
    .rd (some 29) none none (.nz (.tmp 28)) <|
    .rd (some 30) none none (.fa 7 (.tmp 29)) <|
    .rd (some 31) none (some 32768) (.ld none (.tmp 30)) <|
    .rd (some 32) none none (.nz (.tmp 31)) <|
    .rd (some 33) none none (.fa 8 (.tmp 32)) <|
    .rd (some 34) none (some 32768) (.ld none (.tmp 33)) <|
    .ef (some 27) none 7 (.cl 78 [(.tmp 26)]) <|
    .ef (some 35) none 15 (.cl 78 [(.tmp 34)]) <|
    .rd (some 36) none none (.bin .lss (.tmp 27) (.tmp 35)) <|
    .done) <|
  .cond (.tmp 36) (.reg <| .rd (some 37) none none (.mv (.tmp 0)) <|
    .rd (some 38) none none (.mv (.tmp 0)) <|
    .rd (some 39) none none (.nz (.tmp 38)) <|
    .rd (some 40) none none (.fa 7 (.tmp 39)) <|
    .rd (some 41) none none (.ld none (.tmp 40)) <|
    .ef (some 42) none 0 (.cl 79 [(.tmp 41), (.const (.bool false))]) <|
    .rd (some 43) none none (.nz (.tmp 37)) <|
    .rd (some 44) none none (.fa 7 (.tmp 43)) <|
    .ef none none 0 (.st 1 (.tmp 44) (.tmp 42)) <|
    .done) <|
  .skip) <|
  .seq (.reg <| .rd (some 45) none none (.mv (.tmp 0)) <|
    .ef (some 46) none 0 (.cl 79 [(.tmp 45), (.const (.bool true))]) <|
    .rd (some 2) none none (.mv (.tmp 46)) <|
    .done) <|
  .ret) <|
  .seq (.reg <| .rd (some 48) none none (.mv (.tmp 3)) <|
    .rd (some 49) none none (.bin .lss (.tmp 48) (.const (.int .i64 (-1)))) <|
    .rd (some 47) none none (.mv (.tmp 49)) <|
    .done) <|
  .cond (.tmp 47) (.seq (.seq (.reg <| .rd (some 50) none none (.mv (.tmp 0)) <|
    .rd (some 51) none none (.nz (.tmp 50)) <|
    .rd (some 52) none none (.fa 8 (.tmp 51)) <|
    .rd (some 53) none (some 32896) (.ld none (.tmp 52)) <|
    .rd (some 54) none none (.nz (.tmp 53)) <|
    .rd (some 55) none none (.fa 8 (.tmp 54)) <|
    .rd (some 56) none (some 32896) (.ld none (.tmp 55)) <|
    .rd (some 58) none none (.mv (.tmp 0)) <|
    .rd (some 59) none none (.nz (.tmp 58)) <|
    .rd (some 60) none none (.fa 8 (.tmp 59)) <|
    .rd (some 61) none (some 32768) (.ld none (.tmp 60)) <|
    .rd (some 62) none none (.nz (.tmp 61)) <|
    .rd (some 63) none none (.fa 7 (.tmp 62)) <|
    .rd (some 64) none (some 32768) (.ld none (.tmp 63)) <|
    .ef (some 57) none 7 (.cl 78 [(.tmp 56)]) <|
    .ef (some 65) none 15 (.cl 78 [(.tmp 64)]) <|
    .rd (some 66) none none (.bin .lss (.tmp 57) (.tmp 65)) <|
    .done) <|
  .cond (.tmp 66) (.reg <| .rd (some 67) none none (.mv (.tmp 0)) <|
    .rd (some 68) none none (.mv (.tmp 0)) <|
    .rd (some 69) none none (.nz (.tmp 68)) <|
    .rd (some 70) none none (.fa 8 (.tmp 69)) <|
    .rd (some 71) none none (.ld none (.tmp 70)) <|
    .ef (some 72) none 0 (.cl 79 [(.tmp 71), (.const (.bool true))]) <|
    .rd (some 73) none none (.nz (.tmp 67)) <|
    .rd (some 74) none none (.fa 8 (.tmp 73)) <|
    .ef none none 0 (.st 1 (.tmp 74) (.tmp 72)) <|
    .done) <|
  .skip) <|
  .seq (.reg <| .rd (some 75) none none (.mv (.tmp 0)) <|
    .ef (some 76) none 0 (.cl 79 [(.tmp 75), (.const (.bool false))]) <|
    .rd (some 2) none none (.mv (.tmp 76)) <|
    .done) <|
  .ret) <|
  .skip) <|
  .seq (.reg <| .rd (some 77) none none (.mv (.tmp 0)) <|
    .rd (some 2) none none (.mv (.tmp 77)) <|
    .done) <|
  .ret⟩
def F68.k : List Nat := [0, 2, 3, 17, 36, 47, 66]
theorem F68.ok : trF Try.prog 68 = some F68 := by kernel_rfl

/- (*dovecote.order.Map[dovecote.latch.owner]).set -/
def F51 : MF := ⟨66, [(8, none)],
  .seq (.reg <| .ef (some 7) none 0 (.bx 63 5 (.tmp 3)) <|
    .rd (some 8) none none (.mv (.const (.pointer none))) <|
    .done) <|
  .seq (.block 0 <|
  .seq (.reg <| .rd (some 15) none none (.mv (.tmp 1)) <|
    .rd (some 16) none none (.eqn 4 false (.tmp 15) (.const (.pointer none))) <|
    .rd (some 14) none none (.mv (.tmp 16)) <|
    .done) <|
  .cond (.tmp 14) (.seq (.reg <| .rd (some 17) none none (.mv (.tmp 0)) <|
    .rd (some 18) none none (.nz (.tmp 17)) <|
    .rd (some 19) none none (.fa 1 (.tmp 18)) <|
    .rd (some 20) none none (.ld none (.tmp 19)) <|
    .rd (some 21) none none (.bin .add (.tmp 20) (.const (.int .i64 1))) <|
    .rd (some 22) none none (.nz (.tmp 17)) <|
    .rd (some 23) none none (.fa 1 (.tmp 22)) <|
    .ef none none 0 (.st 1 (.tmp 23) (.tmp 21)) <|
    .done) <|
  .seq (.reg <| .rd (some 24) none none (.mv (.tmp 2)) <|
    .rd (some 25) none none (.ld (some 5) (.tmp 7)) <|
    .rd (some 26) none none (.bld [(.string ⟨#[]⟩), (.int .u32 0), (.int .u32 0), (.string ⟨#[]⟩), (.string ⟨#[]⟩), (.bool false), (.int .i64 0), (.pointer none), (.pointer none)] [(0, 1, (.tmp 24)), (1, 5, (.tmp 25)), (6, 1, (.const (.int .i64 1)))]) <|
    .ef (some 27) none 0 (.bx 92 9 (.tmp 26)) <|
    .rd (some 8) none none (.mv (.tmp 27)) <|
    .done) <|
  .ret) <|
  .seq (.reg <| .rd (some 29) none none (.mv (.tmp 2)) <|
    .rd (some 30) none none (.mv (.tmp 1)) <|
    .rd (some 31) none none (.nz (.tmp 30)) <|
    .rd (some 32) none none (.fa 0 (.tmp 31)) <|
    .rd (some 33) none none (.ld none (.tmp 32)) <|
    .rd (some 34) none none (.bin .lss (.tmp 29) (.tmp 33)) <|
    .rd (some 28) none none (.mv (.tmp 34)) <|
    .done) <|
  .cond (.tmp 28) (.reg <| .rd (some 35) none none (.mv (.tmp 1)) <|
    .rd (some 36) none none (.mv (.tmp 0)) <|
    .rd (some 37) none none (.mv (.tmp 1)) <|
    .rd (some 38) none none (.nz (.tmp 37)) <|
    .rd (some 39) none none (.fa 7 (.tmp 38)) <|
    .rd (some 40) none (some 2304) (.ld none (.tmp 39)) <|
    .rd (some 41) none none (.mv (.tmp 2)) <|
    .rd (some 42) none (some 2304) (.ld (some 5) (.tmp 7)) <|
    .ef (some 43) none 8 (.cl 51 [(.tmp 36), (.tmp 40), (.tmp 41), (.tmp 42)]) <|
    .rd (some 44) none none (.nz (.tmp 35)) <|
    .rd (some 45) none none (.fa 7 (.tmp 44)) <|
    .ef none none 11 (.st 1 (.tmp 45) (.tmp 43)) <|
    .done) <|
  .seq (.reg <| .rd (some 47) none none (.mv (.tmp 2)) <|
    .rd (some 48) none none (.mv (.tmp 1)) <|
    .rd (some 49) none none (.nz (.tmp 48)) <|
    .rd (some 50) none none (.fa 0 (.tmp 49)) <|
    .rd (some 51) none none (.ld none (.tmp 50)) <|
    .rd (some 52) none none (.bin .gtr (.tmp 47) (.tmp 51)) <|
    .rd (some 46) none none (.mv (.tmp 52)) <|
    .done) <|
  .cond (.tmp 46) (.reg <| .rd (some 53) none none (.mv (.tmp 1)) <|
    .rd (some 54) none none (.mv (.tmp 0)) <|
    .rd (some 55) none none (.mv (.tmp 1)) <|
    .rd (some 56) none none (.nz (.tmp 55)) <|
    .rd (some 57) none none (.fa 8 (.tmp 56)) <|
    .rd (some 58) none (some 2304) (.ld none (.tmp 57)) <|
    .rd (some 59) none none (.mv (.tmp 2)) <|
    .rd (some 60) none (some 2304) (.ld (some 5) (.tmp 7)) <|
    .ef (some 61) none 8 (.cl 51 [(.tmp 54), (.tmp 58), (.tmp 59), (.tmp 60)]) <|
    .rd (some 62) none none (.nz (.tmp 53)) <|
    .rd (some 63) none none (.fa 8 (.tmp 62)) <|
    .ef none none 11 (.st 1 (.tmp 63) (.tmp 61)) <|
    .done) <|
  .seq (.reg <| .rd (some 9) none none (.mv (.tmp 1)) <|
    .rd (some 10) none none (.ld (some 5) (.tmp 7)) <|
    .rd (some 11) none none (.nz (.tmp 9)) <|
    .rd (some 12) none none (.fa 1 (.tmp 11)) <|
    .ef none none 0 (.st 5 (.tmp 12) (.tmp 10)) <|
    .done) <|
  .seq (.reg <| .rd (some 13) none none (.mv (.tmp 1)) <|
    .rd (some 8) none none (.mv (.tmp 13)) <|
    .done) <|
  .ret) <|
  .seq (.reg <| .rd (some 64) none none (.mv (.tmp 1)) <|
    .ef (some 65) none 0 (.cl 68 [(.tmp 64)]) <|
    .rd (some 8) none none (.mv (.tmp 65)) <|
    .done) <|
  .ret⟩
def F51.k : List Nat := [0, 1, 2, 3, 7, 8, 14, 28, 46]
theorem F51.ok : trF Try.prog 51 = some F51 := by kernel_rfl

/- (*dovecote.order.Map[dovecote.latch.owner]).Set -/
def F35 : MF := ⟨19, [],
  .seq (.reg <| .ef (some 5) none 0 (.bx 63 5 (.tmp 2)) <|
    .done) <|
  .seq (.reg <| .rd (some 6) none none (.mv (.tmp 0)) <|
    .rd (some 7) none none (.eqn 4 true (.tmp 6) (.const (.pointer none))) <|
    .done) <|
  .cond (.tmp 7) (.reg <| .rd (some 8) none none (.mv (.tmp 0)) <|
    .rd (some 9) none none (.mv (.tmp 0)) <|
    .rd (some 10) none none (.mv (.tmp 0)) <|
    .rd (some 11) none none (.nz (.tmp 10)) <|
    .rd (some 12) none none (.fa 0 (.tmp 11)) <|
    .rd (some 13) none (some 2304) (.ld none (.tmp 12)) <|
    .rd (some 14) none none (.mv (.tmp 1)) <|
    .rd (some 15) none (some 2304) (.ld (some 5) (.tmp 5)) <|
    .ef (some 16) none 8 (.cl 51 [(.tmp 9), (.tmp 13), (.tmp 14), (.tmp 15)]) <|
    .rd (some 17) none none (.nz (.tmp 8)) <|
    .rd (some 18) none none (.fa 0 (.tmp 17)) <|
    .ef none none 11 (.st 1 (.tmp 18) (.tmp 16)) <|
    .done) <|
  .skip⟩
def F35.k : List Nat := [0, 1, 2, 5, 7]
theorem F35.ok : trF Try.prog 35 = some F35 := by kernel_rfl

/- (*dovecote.order.Map[dovecote.latch.owner]).Get -/
abbrev F30l0 : MC :=
  .seq (.block 0 <|
  .seq (.reg <| .rd (some 16) none none (.mv (.tmp 7)) <|
    .rd (some 17) none none (.eqn 4 false (.tmp 16) (.const (.pointer none))) <|
    .rd (some 15) none none (.mv (.tmp 17)) <|
    .done) <|
  .cond (.tmp 15) (.seq (.reg <| .rd (some 18) none none (.ld (some 5) (.tmp 6)) <|
    .ef none none 0 (.st 5 (.tmp 4) (.tmp 18)) <|
    .rd (some 5) none none (.mv (.const (.bool false))) <|
    .done) <|
  .ret) <|
  .seq (.reg <| .rd (some 20) none none (.mv (.tmp 1)) <|
    .rd (some 21) none none (.mv (.tmp 7)) <|
    .rd (some 22) none none (.nz (.tmp 21)) <|
    .rd (some 23) none none (.fa 0 (.tmp 22)) <|
    .rd (some 24) none none (.ld none (.tmp 23)) <|
    .rd (some 25) none none (.bin .lss (.tmp 20) (.tmp 24)) <|
    .rd (some 19) none none (.mv (.tmp 25)) <|
    .done) <|
  .cond (.tmp 19) (.seq (.reg <| .rd (some 26) none none (.mv (.tmp 7)) <|
    .rd (some 27) none none (.nz (.tmp 26)) <|
    .rd (some 28) none none (.fa 7 (.tmp 27)) <|
    .rd (some 29) none none (.ld none (.tmp 28)) <|
    .rd (some 7) none none (.mv (.tmp 29)) <|
    .done) <|
  .goto 0) <|
  .seq (.reg <| .rd (some 31) none none (.mv (.tmp 1)) <|
    .rd (some 32) none none (.mv (.tmp 7)) <|
    .rd (some 33) none none (.nz (.tmp 32)) <|
    .rd (some 34) none none (.fa 0 (.tmp 33)) <|
    .rd (some 35) none none (.ld none (.tmp 34)) <|
    .rd (some 36) none none (.bin .gtr (.tmp 31) (.tmp 35)) <|
    .rd (some 30) none none (.mv (.tmp 36)) <|
    .done) <|
  .cond (.tmp 30) (.seq (.reg <| .rd (some 37) none none (.mv (.tmp 7)) <|
    .rd (some 38) none none (.nz (.tmp 37)) <|
    .rd (some 39) none none (.fa 8 (.tmp 38)) <|
    .rd (some 40) none none (.ld none (.tmp 39)) <|
    .rd (some 7) none none (.mv (.tmp 40)) <|
    .done) <|
  .goto 0) <|
  .skip) <|
  .seq (.reg <| .rd (some 41) none none (.mv (.tmp 7)) <|
    .rd (some 42) none none (.nz (.tmp 41)) <|
    .rd (some 43) none none (.fa 1 (.tmp 42)) <|
    .rd (some 44) none none (.ld (some 5) (.tmp 43)) <|
    .ef none none 0 (.st 5 (.tmp 4) (.tmp 44)) <|
    .rd (some 5) none none (.mv (.const (.bool true))) <|
    .done) <|
  .ret
abbrev F30s1 : MC :=
  .seq (.reg <| .ef (some 6) none 0 (.al 63 [(.int .u32 0), (.int .u32 0), (.string ⟨#[]⟩), (.string ⟨#[]⟩), (.bool false)]) <|
    .done) <|
  .seq (.seq (.reg <| .rd (some 8) none none (.mv (.tmp 0)) <|
    .rd (some 9) none none (.eqn 4 false (.tmp 8) (.const (.pointer none))) <|
    .done) <|
  .cond (.tmp 9) (.seq (.reg <| .rd (some 10) none none (.ld (some 5) (.tmp 6)) <|
    .ef none none 0 (.st 5 (.tmp 4) (.tmp 10)) <|
    .rd (some 5) none none (.mv (.const (.bool false))) <|
    .done) <|
  .ret) <|
  .skip) <|
  .seq (.reg <| .rd (some 11) none none (.mv (.tmp 0)) <|
    .rd (some 12) none none (.nz (.tmp 11)) <|
    .rd (some 13) none none (.fa 0 (.tmp 12)) <|
    .rd (some 14) none none (.ld none (.tmp 13)) <|
    .rd (some 7) none none (.mv (.tmp 14)) <|
    .done) <|
  .seq (.label 0) F30l0
def F30 : MF := ⟨45, [(4, (some (some 5))), (5, none)],
  .seq (.reg <| .ef (some 4) none 0 (.al 63 [(.int .u32 0), (.int .u32 0), (.string ⟨#[]⟩), (.string ⟨#[]⟩), (.bool false)]) <|
    .rd (some 5) none none (.mv (.const (.bool false))) <|
    .done) <|
  .scope F30s1⟩
def F30.k : List Nat := [0, 1, 4, 5, 6, 7, 9, 15, 19, 30]
theorem F30.ok : trF Try.prog 30 = some F30 := by kernel_rfl

/- (*dovecote.order.node[dovecote.latch.owner]).keys -/
def F52 : MF := ⟨86, [(10, none)],
  .seq (.reg <| .rd (some 10) none none (.mv (.const (.slice none 0 0))) <|
    .done) <|
  .seq (.seq (.reg <| .rd (some 11) none none (.mv (.tmp 0)) <|
    .rd (some 12) none none (.eqn 4 false (.tmp 11) (.const (.pointer none))) <|
    .rd (some 13) none none (.mv (.tmp 12)) <|
    .rd (some 14) (some (13, false)) none (.mv (.tmp 1)) <|
    .rd (some 15) (some (13, false)) none (.len (.tmp 14)) <|
    .rd (some 16) (some (13, false)) none (.mv (.tmp 4)) <|
    .rd (some 17) (some (13, false)) none (.bin .geq (.tmp 15) (.tmp 16)) <|
    .rd (some 18) none none (.pick (.tmp 13) (.const (.bool true)) (.tmp 17)) <|
    .done) <|
  .cond (.tmp 18) (.seq (.reg <| .rd (some 19) none none (.mv (.tmp 1)) <|
    .rd (some 10) none none (.mv (.tmp 19)) <|
    .done) <|
  .ret) <|
  .skip) <|
  .seq (.seq (.reg <| .rd (some 20) none none (.mv (.tmp 2)) <|
    .rd (some 21) none none (.mv (.tmp 0)) <|
    .rd (some 22) none none (.nz (.tmp 21)) <|
    .rd (some 23) none none (.fa 0 (.tmp 22)) <|
    .rd (some 24) none none (.ld none (.tmp 23)) <|
    .rd (some 25) none none (.bin .lss (.tmp 20) (.tmp 24)) <|
    .done) <|
  .cond (.tmp 25) (.reg <| .rd (some 26) none none (.mv (.tmp 0)) <|
    .rd (some 27) none none (.nz (.tmp 26)) <|
    .rd (some 28) none none (.fa 7 (.tmp 27)) <|
    .rd (some 29) none none (.ld none (.tmp 28)) <|
    .rd (some 30) none none (.mv (.tmp 1)) <|
    .rd (some 31) none none (.mv (.tmp 2)) <|
    .rd (some 32) none none (.mv (.tmp 3)) <|
    .rd (some 33) none none (.mv (.tmp 4)) <|
    .ef (some 34) none 0 (.cl 52 [(.tmp 29), (.tmp 30), (.tmp 31), (.tmp 32), (.tmp 33)]) <|
    .rd (some 1) none none (.mv (.tmp 34)) <|
    .done) <|
  .skip) <|
  .seq (.seq (.reg <| .rd (some 35) none none (.mv (.tmp 2)) <|
    .rd (some 36) none none (.mv (.tmp 0)) <|
    .rd (some 37) none none (.nz (.tmp 36)) <|
    .rd (some 38) none none (.fa 0 (.tmp 37)) <|
    .rd (some 39) none none (.ld none (.tmp 38)) <|
    .rd (some 40) none none (.bin .leq (.tmp 35) (.tmp 39)) <|
    .rd (some 41) none none (.mv (.tmp 40)) <|
    .rd (some 42) (some (41, true)) none (.mv (.tmp 3)) <|
    .rd (some 43) (some (41, true)) none (.bin .eql (.tmp 42) (.const (.string ⟨#[]⟩))) <|
    .rd (some 44) (some (41, true)) none (.mv (.tmp 43)) <|
    .rd (some 45) (some (44, false)) none (.mv (.tmp 0)) <|
    .rd (some 46) (some (44, false)) none (.nz (.tmp 45)) <|
    .rd (some 47) (some (44, false)) none (.fa 0 (.tmp 46)) <|
    .rd (some 48) (some (44, false)) none (.ld none (.tmp 47)) <|
    .rd (some 49) (some (44, false)) none (.mv (.tmp 3)) <|
    .rd (some 50) (some (44, false)) none (.bin .lss (.tmp 48) (.tmp 49)) <|
    .rd (some 51) (some (41, true)) none (.pick (.tmp 44) (.const (.bool true)) (.tmp 50)) <|
    .rd (some 52) none none (.pick (.tmp 41) (.tmp 51) (.const (.bool false))) <|
    .rd (some 53) none none (.mv (.tmp 52)) <|
    .rd (some 54) (some (53, true)) none (.mv (.tmp 1)) <|
    .rd (some 55) (some (53, true)) none (.len (.tmp 54)) <|
    .rd (some 56) (some (53, true)) none (.mv (.tmp 4)) <|
    .rd (some 57) (some (53, true)) none (.bin .lss (.tmp 55) (.tmp 56)) <|
    .rd (some 58) none none (.pick (.tmp 53) (.tmp 57) (.const (.bool false))) <|
    .done) <|
  .cond (.tmp 58) (.reg <| .rd (some 59) none none (.mv (.tmp 1)) <|
    .rd (some 60) none none (.mv (.tmp 0)) <|
    .rd (some 61) none none (.nz (.tmp 60)) <|
    .rd (some 62) none none (.fa 0 (.tmp 61)) <|
    .rd (some 63) none none (.ld none (.tmp 62)) <|
    .ef (some 64) none 0 (.raw ⟨none, (.buildSlice 79 1 #[(0, (.tmp 63))]), 79, "", #[], none⟩) <|
    .ef (some 65) none 0 (.raw ⟨none, (.call ⟨(.builtin .append), #[(.tmp 59), (.tmp 64)], #[79, 79]⟩), 79, "", #[], none⟩) <|
    .rd (some 1) none none (.mv (.tmp 65)) <|
    .done) <|
  .skip) <|
  .seq (.seq (.reg <| .rd (some 66) none none (.mv (.tmp 3)) <|
    .rd (some 67) none none (.bin .eql (.tmp 66) (.const (.string ⟨#[]⟩))) <|
    .rd (some 68) none none (.mv (.tmp 67)) <|
    .rd (some 69) (some (68, false)) none (.mv (.tmp 0)) <|
    .rd (some 70) (some (68, false)) none (.nz (.tmp 69)) <|
    .rd (some 71) (some (68, false)) none (.fa 0 (.tmp 70)) <|
    .rd (some 72) (some (68, false)) none (.ld none (.tmp 71)) <|
    .rd (some 73) (some (68, false)) none (.mv (.tmp 3)) <|
    .rd (some 74) (some (68, false)) none (.bin .lss (.tmp 72) (.tmp 73)) <|
    .rd (some 75) none none (.pick (.tmp 68) (.const (.bool true)) (.tmp 74)) <|
    .done) <|
  .cond (.tmp 75) (.reg <| .rd (some 76) none none (.mv (.tmp 0)) <|
    .rd (some 77) none none (.nz (.tmp 76)) <|
    .rd (some 78) none none (.fa 8 (.tmp 77)) <|
    .rd (some 79) none none (.ld none (.tmp 78)) <|
    .rd (some 80) none none (.mv (.tmp 1)) <|
    .rd (some 81) none none (.mv (.tmp 2)) <|
    .rd (some 82) none none (.mv (.tmp 3)) <|
    .rd (some 83) none none (.mv (.tmp 4)) <|
    .ef (some 84) none 0 (.cl 52 [(.tmp 79), (.tmp 80), (.tmp 81), (.tmp 82), (.tmp 83)]) <|
    .rd (some 1) none none (.mv (.tmp 84)) <|
    .done) <|
  .skip) <|
  .seq (.reg <| .rd (some 85) none none (.mv (.tmp 1)) <|
    .rd (some 10) none none (.mv (.tmp 85)) <|
    .done) <|
  .ret⟩
def F52.k : List Nat := [0, 1, 2, 3, 4, 10, 18, 25, 58, 75]
theorem F52.ok : trF Try.prog 52 = some F52 := by kernel_rfl

/- (*dovecote.order.Map[dovecote.latch.owner]).Keys -/
def F36 : MF := ⟨19, [(8, none)],
  .seq (.reg <| .rd (some 8) none none (.mv (.const (.slice none 0 0))) <|
    .done) <|
  .seq (.seq (.reg <| .rd (some 9) none none (.mv (.tmp 0)) <|
    .rd (some 10) none none (.eqn 4 false (.tmp 9) (.const (.pointer none))) <|
    .done) <|
  .cond (.tmp 10) (.seq (.reg <| .rd (some 8) none none (.mv (.const (.slice none 0 0))) <|
    .done) <|
  .ret) <|
  .skip) <|
  .seq (.reg <| .rd (some 11) none none (.mv (.tmp 0)) <|
    .rd (some 12) none none (.nz (.tmp 11)) <|
    .rd (some 13) none none (.fa 0 (.tmp 12)) <|
    .rd (some 14) none none (.ld none (.tmp 13)) <|
    .rd (some 15) none none (.mv (.tmp 1)) <|
    .rd (some 16) none none (.mv (.tmp 2)) <|
    .rd (some 17) none none (.mv (.tmp 3)) <|
    .ef (some 18) none 0 (.cl 52 [(.tmp 14), (.const (.slice none 0 0)), (.tmp 15), (.tmp 16), (.tmp 17)]) <|
    .rd (some 8) none none (.mv (.tmp 18)) <|
    .done) <|
  .ret⟩
def F36.k : List Nat := [0, 1, 2, 3, 8, 10]
theorem F36.ok : trF Try.prog 36 = some F36 := by kernel_rfl

/- (*dovecote.order.node[dovecote.latch.owner]).first -/
def F71 : MF := ⟨31, [(2, none), (3, none)],
  .seq (.reg <| .rd (some 2) none none (.mv (.const (.pointer none))) <|
    .rd (some 3) none none (.mv (.const (.pointer none))) <|
    .done) <|
  .seq (.seq (.reg <| .rd (some 6) none none (.mv (.tmp 0)) <|
    .rd (some 7) none none (.nz (.tmp 6)) <|
    .rd (some 8) none none (.fa 7 (.tmp 7)) <|
    .rd (some 9) none none (.ld none (.tmp 8)) <|
    .rd (some 10) none none (.eqn 4 false (.tmp 9) (.const (.pointer none))) <|
    .done) <|
  .cond (.tmp 10) (.seq (.reg <| .rd (some 11) none none (.mv (.tmp 0)) <|
    .rd (some 12) none none (.nz (.tmp 11)) <|
    .rd (some 13) none none (.fa 8 (.tmp 12)) <|
    .rd (some 14) none none (.ld none (.tmp 13)) <|
    .rd (some 15) none none (.mv (.tmp 0)) <|
    .rd (some 2) none none (.mv (.tmp 14)) <|
    .rd (some 3) none none (.mv (.tmp 15)) <|
    .done) <|
  .ret) <|
  .skip) <|
  .seq (.reg <| .rd (some 17) none none (.mv (.tmp 0)) <|
    .rd (some 18) none none (.nz (.tmp 17)) <|
    .rd (some 19) none none (.fa 7 (.tmp 18)) <|
    .rd (some 20) none none (.ld none (.tmp 19)) <|
    .ef (some 21) none 0 (.cl 71 [(.tmp 20)]) <|
    .rd (some 16) none none (.mv (.tmp 21)) <|
    .rd (some 22) none none (.ext (.tmp 16) 0) <|
    .rd (some 23) none none (.ext (.tmp 16) 1) <|
    .rd (some 4) none none (.mv (.tmp 22)) <|
    .rd (some 5) none none (.mv (.tmp 23)) <|
    .done) <|
  .seq (.reg <| .rd (some 24) none none (.mv (.tmp 0)) <|
    .rd (some 25) none none (.mv (.tmp 4)) <|
    .rd (some 26) none none (.nz (.tmp 24)) <|
    .rd (some 27) none none (.fa 7 (.tmp 26)) <|
    .ef none none 0 (.st 1 (.tmp 27) (.tmp 25)) <|
    .done) <|
  .seq (.reg <| .rd (some 28) none none (.mv (.tmp 0)) <|
    .ef (some 29) none 0 (.cl 68 [(.tmp 28)]) <|
    .rd (some 30) none none (.mv (.tmp 5)) <|
    .rd (some 2) none none (.mv (.tmp 29)) <|
    .rd (some 3) none none (.mv (.tmp 30)) <|
    .done) <|
  .ret⟩
def F71.k : List Nat := [0, 2, 3, 4, 5, 10]
theorem F71.ok : trF Try.prog 71 = some F71 := by kernel_rfl

/- (*dovecote.order.Map[dovecote.latch.owner]).cut -/
def F57 : MF := ⟨84, [(6, none)],
  .seq (.reg <| .rd (some 6) none none (.mv (.const (.pointer none))) <|
    .done) <|
  .seq (.block 0 <|
  .seq (.reg <| .rd (some 46) none none (.mv (.tmp 1)) <|
    .rd (some 47) none none (.eqn 4 false (.tmp 46) (.const (.pointer none))) <|
    .rd (some 45) none none (.mv (.tmp 47)) <|
    .done) <|
  .cond (.tmp 45) (.seq (.reg <| .rd (some 6) none none (.mv (.const (.pointer none))) <|
    .done) <|
  .ret) <|
  .seq (.reg <| .rd (some 49) none none (.mv (.tmp 2)) <|
    .rd (some 50) none none (.mv (.tmp 1)) <|
    .rd (some 51) none none (.nz (.tmp 50)) <|
    .rd (some 52) none none (.fa 0 (.tmp 51)) <|
    .rd (some 53) none none (.ld none (.tmp 52)) <|
    .rd (some 54) none none (.bin .lss (.tmp 49) (.tmp 53)) <|
    .rd (some 48) none none (.mv (.tmp 54)) <|
    .done) <|
  .cond (.tmp 48) (.reg <| .rd (some 55) none none (.mv (.tmp 1)) <|
    .rd (some 56) none none (.mv (.tmp 0)) <|
    .rd (some 57) none none (.mv (.tmp 1)) <|
    .rd (some 58) none none (.nz (.tmp 57)) <|
    .rd (some 59) none none (.fa 7 (.tmp 58)) <|
    .rd (some 60) none none (.ld none (.tmp 59)) <|
    .rd (some 61) none none (.mv (.tmp 2)) <|
    .ef (some 62) none 0 (.cl 57 [(.tmp 56), (.tmp 60), (.tmp 61)]) <|
    .rd (some 63) none none (.nz (.tmp 55)) <|
    .rd (some 64) none none (.fa 7 (.tmp 63)) <|
    .ef none none 0 (.st 1 (.tmp 64) (.tmp 62)) <|
    .done) <|
  .seq (.reg <| .rd (some 66) none none (.mv (.tmp 2)) <|
    .rd (some 67) none none (.mv (.tmp 1)) <|
    .rd (some 68) none none (.nz (.tmp 67)) <|
    .rd (some 69) none none (.fa 0 (.tmp 68)) <|
    .rd (some 70) none none (.ld none (.tmp 69)) <|
    .rd (some 71) none none (.bin .gtr (.tmp 66) (.tmp 70)) <|
    .rd (some 65) none none (.mv (.tmp 71)) <|
    .done) <|
  .cond (.tmp 65) (.reg <| .rd (some 72) none none (.mv (.tmp 1)) <|
    .rd (some 73) none none (.mv (.tmp 0)) <|
    .rd (some 74) none none (.mv (.tmp 1)) <|
    .rd (some 75) none none (.nz (.tmp 74)) <|
    .rd (some 76) none none (.fa 8 (.tmp 75)) <|
    .rd (some 77) none none (.ld none (.tmp 76)) <|
    .rd (some 78) none none (.mv (.tmp 2)) <|
    .ef (some 79) none 0 (.cl 57 [(.tmp 73), (.tmp 77), (.tmp 78)]) <|
    .rd (some 80) none none (.nz (.tmp 72)) <|
    .rd (some 81) none none (.fa 8 (.tmp 80)) <|
    .ef none none 0 (.st 1 (.tmp 81) (.tmp 79)) <|
    .done) <|
  .seq (.reg <| .rd (some 9) none none (.mv (.tmp 0)) <|
    .rd (some 10) none none (.nz (.tmp 9)) <|
    .rd (some 11) none none (.fa 1 (.tmp 10)) <|
    .rd (some 12) none none (.ld none (.tmp 11)) <|
    .rd (some 13) none none (.bin .sub (.tmp 12) (.const (.int .i64 1))) <|
    .rd (some 14) none none (.nz (.tmp 9)) <|
    .rd (some 15) none none (.fa 1 (.tmp 14)) <|
    .ef none none 0 (.st 1 (.tmp 15) (.tmp 13)) <|
    .done) <|
  .seq (.seq (.reg <| .rd (some 16) none none (.mv (.tmp 1)) <|
    .rd (some 17) none none (.nz (.tmp 16)) <|
    .rd (some 18) none none (.fa 8 (.tmp 17)) <|
    .rd (some 19) none none (.ld none (.tmp 18)) <|
    .rd (some 20) none none (.eqn 4 false (.tmp 19) (.const (.pointer none))) <|
    .done) <|
  .cond (.tmp 20) (.seq (.reg <| .rd (some 21) none none (.mv (.tmp 1)) <|
    .rd (some 22) none none (.nz (.tmp 21)) <|
    .rd (some 23) none none (.fa 7 (.tmp 22)) <|
    .rd (some 24) none none (.ld none (.tmp 23)) <|
    .rd (some 6) none none (.mv (.tmp 24)) <|
    .done) <|
  .ret) <|
  .skip) <|
  .seq (.reg <| .rd (some 26) none none (.mv (.tmp 1)) <|
    .rd (some 27) none none (.nz (.tmp 26)) <|
    .rd (some 28) none none (.fa 8 (.tmp 27)) <|
    .rd (some 29) none none (.ld none (.tmp 28)) <|
    .ef (some 30) none 0 (.cl 71 [(.tmp 29)]) <|
    .rd (some 25) none none (.mv (.tmp 30)) <|
    .rd (some 31) none none (.ext (.tmp 25) 0) <|
    .rd (some 32) none none (.ext (.tmp 25) 1) <|
    .rd (some 7) none none (.mv (.tmp 31)) <|
    .rd (some 8) none none (.mv (.tmp 32)) <|
    .done) <|
  .seq (.reg <| .rd (some 33) none none (.mv (.tmp 8)) <|
    .rd (some 34) none none (.mv (.tmp 8)) <|
    .rd (some 35) none none (.mv (.tmp 1)) <|
    .rd (some 36) none none (.nz (.tmp 35)) <|
    .rd (some 37) none none (.fa 7 (.tmp 36)) <|
    .rd (some 38) none none (.ld none (.tmp 37)) <|
    .rd (some 39) none none (.mv (.tmp 7)) <|
    .rd (some 40) none none (.nz (.tmp 33)) <|
    .rd (some 41) none none (.fa 7 (.tmp 40)) <|
    .ef none none 0 (.st 1 (.tmp 41) (.tmp 38)) <|
    .rd (some 42) none none (.nz (.tmp 34)) <|
    .rd (some 43) none none (.fa 8 (.tmp 42)) <|
    .ef none none 0 (.st 1 (.tmp 43) (.tmp 39)) <|
    .done) <|
  .reg <| .rd (some 44) none none (.mv (.tmp 8)) <|
    .rd (some 1) none none (.mv (.tmp 44)) <|
    .done) <|
  .seq (.reg <| .rd (some 82) none none (.mv (.tmp 1)) <|
    .ef (some 83) none 0 (.cl 68 [(.tmp 82)]) <|
    .rd (some 6) none none (.mv (.tmp 83)) <|
    .done) <|
  .ret⟩
def F57.k : List Nat := [0, 1, 2, 6, 7, 8, 20, 45, 48, 65]
theorem F57.ok : trF Try.prog 57 = some F57 := by kernel_rfl

/- (*dovecote.order.Map[dovecote.latch.owner]).Cut -/
def F40 : MF := ⟨28, [(4, none)],
  .seq (.reg <| .rd (some 4) none none (.mv (.const (.bool false))) <|
    .done) <|
  .seq (.seq (.reg <| .rd (some 6) none none (.mv (.tmp 0)) <|
    .rd (some 7) none none (.eqn 4 false (.tmp 6) (.const (.pointer none))) <|
    .done) <|
  .cond (.tmp 7) (.seq (.reg <| .rd (some 4) none none (.mv (.const (.bool false))) <|
    .done) <|
  .ret) <|
  .skip) <|
  .seq (.reg <| .rd (some 8) none none (.mv (.tmp 0)) <|
    .rd (some 9) none none (.nz (.tmp 8)) <|
    .rd (some 10) none none (.fa 1 (.tmp 9)) <|
    .rd (some 11) none none (.ld none (.tmp 10)) <|
    .rd (some 5) none none (.mv (.tmp 11)) <|
    .done) <|
  .seq (.reg <| .rd (some 12) none none (.mv (.tmp 0)) <|
    .rd (some 13) none none (.mv (.tmp 0)) <|
    .rd (some 14) none none (.mv (.tmp 0)) <|
    .rd (some 15) none none (.nz (.tmp 14)) <|
    .rd (some 16) none none (.fa 0 (.tmp 15)) <|
    .rd (some 17) none none (.ld none (.tmp 16)) <|
    .rd (some 18) none none (.mv (.tmp 1)) <|
    .ef (some 19) none 0 (.cl 57 [(.tmp 13), (.tmp 17), (.tmp 18)]) <|
    .rd (some 20) none none (.nz (.tmp 12)) <|
    .rd (some 21) none none (.fa 0 (.tmp 20)) <|
    .ef none none 0 (.st 1 (.tmp 21) (.tmp 19)) <|
    .done) <|
  .seq (.reg <| .rd (some 22) none none (.mv (.tmp 0)) <|
    .rd (some 23) none none (.nz (.tmp 22)) <|
    .rd (some 24) none none (.fa 1 (.tmp 23)) <|
    .rd (some 25) none none (.ld none (.tmp 24)) <|
    .rd (some 26) none none (.mv (.tmp 5)) <|
    .rd (some 27) none none (.bin .lss (.tmp 25) (.tmp 26)) <|
    .rd (some 4) none none (.mv (.tmp 27)) <|
    .done) <|
  .ret⟩
def F40.k : List Nat := [0, 1, 4, 5, 7]
theorem F40.ok : trF Try.prog 40 = some F40 := by kernel_rfl

/- dovecote.order.New[dovecote.latch.owner] -/
def F26 : MF := ⟨3, [(0, none)],
  .seq (.reg <| .rd (some 0) none none (.mv (.const (.pointer none))) <|
    .done) <|
  .seq (.reg <| .rd (some 1) none none (.bld [(.pointer none), (.int .i64 0)] []) <|
    .ef (some 2) none 0 (.bx 90 2 (.tmp 1)) <|
    .rd (some 0) none none (.mv (.tmp 2)) <|
    .done) <|
  .ret⟩
def F26.k : List Nat := [0]
theorem F26.ok : trF Try.prog 26 = some F26 := by kernel_rfl

/- (*dovecote.order.Map[dovecote.latch.owner]).Len -/
-- NOT TRANSLATED 97 (*dovecote/order.Map[dovecote/latch.owner]).Len

end Go.Proofs.Ythcbefkgfhokoaa
