/- Parts A0 B0 B1 B2 B3 B4 B5 B6 of the proof. -/
import Derived.Test.YthcbefkgfhokoaaProg
import Derived.Test.YthcbefkgfhokoaaMR1
import Derived.KernelRfl
/- The plain form of functions of the program (printed by a program of this session). -/
set_option maxRecDepth 100000
namespace Go.Proofs.Ythcbefkgfhokoaa
open Go Go.Dv

/- (*dovecote.order.node[dovecote.latch.owner]).height -/
def F78 : MF := ⟨9, [(2, none)],
  .seq (.reg <| .rd (some 2) none none (.mv (.const (.int .i64 0))) <|
    .done) <|
  .seq (.seq (.reg <| .rd (some 3) none none (.mv (.tmp 0)) <|
    .rd (some 4) none none (.eqn 4 false (.tmp 3) (.const (.pointer none))) <|
    .done) <|
  .cond (.tmp 4) (.seq (.reg <| .rd (some 2) none none (.mv (.const (.int .i64 0))) <|
    .done) <|
  .ret) <|
  .skip) <|
  .seq (.reg <| .rd (some 5) none none (.mv (.tmp 0)) <|
    .rd (some 6) none none (.nz (.tmp 5)) <|
    .rd (some 7) none none (.fa 6 (.tmp 6)) <|
    .rd (some 8) none none (.ld none (.tmp 7)) <|
    .rd (some 2) none none (.mv (.tmp 8)) <|
    .done) <|
  .ret⟩
def F78.k : List Nat := [0, 2, 4]
theorem F78.ok : trF Try.prog 78 = some F78 := by kernel_rfl

/- (*dovecote.order.node[dovecote.latch.owner]).measure -/
def F77 : MF := ⟨17, [],
  .reg <| .rd (some 2) none none (.mv (.tmp 0)) <|
    .rd (some 3) none none (.mv (.tmp 0)) <|
    .rd (some 4) none none (.nz (.tmp 3)) <|
    .rd (some 5) none none (.fa 7 (.tmp 4)) <|
    .rd (some 6) none (some 33824) (.ld none (.tmp 5)) <|
    .rd (some 8) none none (.mv (.tmp 0)) <|
    .rd (some 9) none none (.nz (.tmp 8)) <|
    .rd (some 10) none none (.fa 8 (.tmp 9)) <|
    .rd (some 11) none (some 33792) (.ld none (.tmp 10)) <|
    .ef (some 7) none 5 (.cl 78 [(.tmp 6)]) <|
    .ef (some 12) none 10 (.cl 78 [(.tmp 11)]) <|
    .rd (some 13) none none (.mm true (.tmp 7) (.tmp 12)) <|
    .rd (some 14) none none (.bin .add (.const (.int .i64 1)) (.tmp 13)) <|
    .rd (some 15) none none (.nz (.tmp 2)) <|
    .rd (some 16) none none (.fa 6 (.tmp 15)) <|
    .ef none none 15 (.st 1 (.tmp 16) (.tmp 14)) <|
    .done⟩
def F77.k : List Nat := [0]
theorem F77.ok : trF Try.prog 77 = some F77 := by kernel_rfl

/- (*dovecote.order.node[dovecote.latch.owner]).turned -/
def F79 : MF := ⟨42, [(4, none)],
  .seq (.reg <| .rd (some 4) none none (.mv (.const (.pointer none))) <|
    .done) <|
  .seq (.reg <| .rd (some 5) none none (.mv (.const (.pointer none))) <|
    .done) <|
  .seq (.seq (.reg <| .rd (some 6) none none (.mv (.tmp 1)) <|
    .done) <|
  .cond (.tmp 6) (.seq (.reg <| .rd (some 7) none none (.mv (.tmp 0)) <|
    .rd (some 8) none none (.nz (.tmp 7)) <|
    .rd (some 9) none none (.fa 7 (.tmp 8)) <|
    .rd (some 10) none none (.ld none (.tmp 9)) <|
    .rd (some 5) none none (.mv (.tmp 10)) <|
    .done) <|
  .reg <| .rd (some 11) none none (.mv (.tmp 0)) <|
    .rd (some 12) none none (.mv (.tmp 5)) <|
    .rd (some 13) none none (.mv (.tmp 5)) <|
    .rd (some 14) none none (.nz (.tmp 13)) <|
    .rd (some 15) none none (.fa 8 (.tmp 14)) <|
    .rd (some 16) none none (.ld none (.tmp 15)) <|
    .rd (some 17) none none (.mv (.tmp 0)) <|
    .rd (some 18) none none (.nz (.tmp 11)) <|
    .rd (some 19) none none (.fa 7 (.tmp 18)) <|
    .ef none none 0 (.st 1 (.tmp 19) (.tmp 16)) <|
    .rd (some 20) none none (.nz (.tmp 12)) <|
    .rd (some 21) none none (.fa 8 (.tmp 20)) <|
    .ef none none 0 (.st 1 (.tmp 21) (.tmp 17)) <|
    .done) <|
  .seq (.reg <| .rd (some 22) none none (.mv (.tmp 0)) <|
    .rd (some 23) none none (.nz (.tmp 22)) <|
    .rd (some 24) none none (.fa 8 (.tmp 23)) <|
    .rd (some 25) none none (.ld none (.tmp 24)) <|
    .rd (some 5) none none (.mv (.tmp 25)) <|
    .done) <|
  .reg <| .rd (some 26) none none (.mv (.tmp 0)) <|
    .rd (some 27) none none (.mv (.tmp 5)) <|
    .rd (some 28) none none (.mv (.tmp 5)) <|
    .rd (some 29) none none (.nz (.tmp 28)) <|
    .rd (some 30) none none (.fa 7 (.tmp 29)) <|
    .rd (some 31) none none (.ld none (.tmp 30)) <|
    .rd (some 32) none none (.mv (.tmp 0)) <|
    .rd (some 33) none none (.nz (.tmp 26)) <|
    .rd (some 34) none none (.fa 8 (.tmp 33)) <|
    .ef none none 0 (.st 1 (.tmp 34) (.tmp 31)) <|
    .rd (some 35) none none (.nz (.tmp 27)) <|
    .rd (some 36) none none (.fa 7 (.tmp 35)) <|
    .ef none none 0 (.st 1 (.tmp 36) (.tmp 32)) <|
    .done) <|
  .seq (.reg <| .rd (some 37) none none (.mv (.tmp 0)) <|
    .ef (some 38) none 0 (.cl 77 [(.tmp 37)]) <|
    .done) <|
  .seq (.reg <| .rd (some 39) none none (.mv (.tmp 5)) <|
    .ef (some 40) none 0 (.cl 77 [(.tmp 39)]) <|
    .done) <|
  .seq (.reg <| .rd (some 41) none none (.mv (.tmp 5)) <|
    .rd (some 4) none none (.mv (.tmp 41)) <|
    .done) <|
  .ret⟩
def F79.k : List Nat := [0, 1, 4, 5, 6]
theorem F79.ok : trF Try.prog 79 = some F79 := by kernel_rfl

/- (*dovecote.order.node[dovecote.latch.owner]).even -/
def F68 : MF := ⟨78, [(2, none)],
  .seq (.reg <| .rd (some 2) none none (.mv (.const (.pointer none))) <|
    .done) <|
  .seq (.reg <| .rd (some 4) none none (.mv (.tmp 0)) <|
    .ef (some 5) none 0 (.cl 77 [(.tmp 4)]) <|
    .done) <|
  .seq (.seq (.reg <| .rd (some 6) none none (.mv (.tmp 0)) <|
    .rd (some 7) none none (.nz (.tmp 6)) <|
    .rd (some 8) none none (.fa 7 (.tmp 7)) <|
    .rd (some 9) none (some 528) (.ld none (.tmp 8)) <|
    .rd (some 11) none none (.mv (.tmp 0)) <|
    .rd (some 12) none none (.nz (.tmp 11)) <|
    .rd (some 13) none none (.fa 8 (.tmp 12)) <|
    .rd (some 14) none (some 512) (.ld none (.tmp 13)) <|
    .ef (some 10) none 4 (.cl 78 [(.tmp 9)]) <|
    .ef (some 15) none 9 (.cl 78 [(.tmp 14)]) <|
    .rd (some 16) none none (.bin .sub (.tmp 10) (.tmp 15)) <|
    .rd (some 3) none none (.mv (.tmp 16)) <|
    .done) <|
  .block 0 <|
  .seq (.reg <| .rd (some 18) none none (.mv (.tmp 3)) <|
    .rd (some 19) none none (.bin .gtr (.tmp 18) (.const (.int .i64 1))) <|
    .rd (some 17) none none (.mv (.tmp 19)) <|
    .done) <|
  .cond (.tmp 17) (.seq (.seq (.reg <| .rd (some 20) none none (.mv (.tmp 0)) <|
    .rd (some 21) none none (.nz (.tmp 20)) <|
    .rd (some 22) none none (.fa 7 (.tmp 21)) <|
    .rd (some 23) none (some 32896) (.ld none (.tmp 22)) <|
    .rd (some 24) none none (.nz (.tmp 23)) <|
    .rd (some 25) none none (.fa 7 (.tmp 24)) <|
    .rd (some 26) none (some 32896) (.ld none (.tmp 25)) <|
    .rd (some 28) none none (.mv (.tmp 0)) <|
    .rd (some 29) none none (.nz (.tmp 28)) <|
    .rd (some 30) none none (.fa 7 (.tmp 29)) <|
    .rd (some 31) none (some 32768) (.ld none (.tmp 30)) <|
    .rd (some 32) none none (.nz (.tmp 31)) <|
    .rd (some 33) none none (.fa 8 (.tmp 32)) <|
    .rd (some 34) none (some 32768) (.ld none (.tmp 33)) <|
    .ef (some 27) none 7 (.cl 78 [(.tmp 26)]) <|
    .ef (some 35) none 15 (.cl 78 [(.tmp 34)]) <|
    .rd (some 36) none none (.bin .lss (.tmp 27) (.tmp 35)) <|
    .done) <|
  .cond (.tmp 36) (.reg <| .rd (some 37) none none (.mv (.tmp 0)) <|
    .rd (some 38) none none (.mv (.tmp 0)) <|
    .rd (some 39) none none (.nz (.tmp 38)) <|
    .rd (some 40) none none (.fa 7 (.tmp 39)) <|
    .rd (some 41) none none (.ld none (.tmp 40)) <|
    .ef (some 42) none 0 (.cl 79 [(.tmp 41), (.const (.bool false))]) <|
    .rd (some 43) none none (.nz (.tmp 37)) <|
    .rd (some 44) none none (.fa 7 (.tmp 43)) <|
    .ef none none 0 (.st 1 (.tmp 44) (.tmp 42)) <|
    .done) <|
  .skip) <|
  .seq (.reg <| .rd (some 45) none none (.mv (.tmp 0)) <|
    .ef (some 46) none 0 (.cl 79 [(.tmp 45), (.const (.bool true))]) <|
    .rd (some 2) none none (.mv (.tmp 46)) <|
    .done) <|
  .ret) <|
  .seq (.reg <| .rd (some 48) none none (.mv (.tmp 3)) <|
    .rd (some 49) none none (.bin .lss (.tmp 48) (.const (.int .i64 (-1)))) <|
    .rd (some 47) none none (.mv (.tmp 49)) <|
    .done) <|
  .cond (.tmp 47) (.seq (.seq (.reg <| .rd (some 50) none none (.mv (.tmp 0)) <|
    .rd (some 51) none none (.nz (.tmp 50)) <|
    .rd (some 52) none none (.fa 8 (.tmp 51)) <|
    .rd (some 53) none (some 32896) (.ld none (.tmp 52)) <|
    .rd (some 54) none none (.nz (.tmp 53)) <|
    .rd (some 55) none none (.fa 8 (.tmp 54)) <|
    .rd (some 56) none (some 32896) (.ld none (.tmp 55)) <|
    .rd (some 58) none none (.mv (.tmp 0)) <|
    .rd (some 59) none none (.nz (.tmp 58)) <|
    .rd (some 60) none none (.fa 8 (.tmp 59)) <|
    .rd (some 61) none (some 32768) (.ld none (.tmp 60)) <|
    .rd (some 62) none none (.nz (.tmp 61)) <|
    .rd (some 63) none none (.fa 7 (.tmp 62)) <|
    .rd (some 64) none (some 32768) (.ld none (.tmp 63)) <|
    .ef (some 57) none 7 (.cl 78 [(.tmp 56)]) <|
    .ef (some 65) none 15 (.cl 78 [(.tmp 64)]) <|
    .rd (some 66) none none (.bin .lss (.tmp 57) (.tmp 65)) <|
    .done) <|
  .cond (.tmp 66) (.reg <| .rd (some 67) none none (.mv (.tmp 0)) <|
    .rd (some 68) none none (.mv (.tmp 0)) <|
    .rd (some 69) none none (.nz (.tmp 68)) <|
    .rd (some 70) none none (.fa 8 (.tmp 69)) <|
    .rd (some 71) none none (.ld none (.tmp 70)) <|
    .ef (some 72) none 0 (.cl 79 [(.tmp 71), (.const (.bool true))]) <|
    .rd (some 73) none none (.nz (.tmp 67)) <|
    .rd (some 74) none none (.fa 8 (.tmp 73)) <|
    .ef none none 0 (.st 1 (.tmp 74) (.tmp 72)) <|
    .done) <|
  .skip) <|
  .seq (.reg <| .rd (some 75) none none (.mv (.tmp 0)) <|
    .ef (some 76) none 0 (.cl 79 [(.tmp 75), (.const (.bool false))]) <|
    .rd (some 2) none none (.mv (.tmp 76)) <|
    .done) <|
  .ret) <|
  .skip) <|
  .seq (.reg <| .rd (some 77) none none (.mv (.tmp 0)) <|
    .rd (some 2) none none (.mv (.tmp 77)) <|
    .done) <|
  .ret⟩
def F68.k : List Nat := [0, 2, 3, 17, 36, 47, 66]
theorem F68.ok : trF Try.prog 68 = some F68 := by kernel_rfl

/- (*dovecote.order.Map[dovecote.latch.owner]).set -/
def F51 : MF := ⟨66, [(8, none)],
  .seq (.reg <| .ef (some 7) none 0 (.bx 63 5 (.tmp 3)) <|
    .rd (some 8) none none (.mv (.const (.pointer none))) <|
    .done) <|
  .seq (.block 0 <|
  .seq (.reg <| .rd (some 15) none none (.mv (.tmp 1)) <|
    .rd (some 16) none none (.eqn 4 false (.tmp 15) (.const (.pointer none))) <|
    .rd (some 14) none none (.mv (.tmp 16)) <|
    .done) <|
  .cond (.tmp 14) (.seq (.reg <| .rd (some 17) none none (.mv (.tmp 0)) <|
    .rd (some 18) none none (.nz (.tmp 17)) <|
    .rd (some 19) none none (.fa 1 (.tmp 18)) <|
    .rd (some 20) none none (.ld none (.tmp 19)) <|
    .rd (some 21) none none (.bin .add (.tmp 20) (.const (.int .i64 1))) <|
    .rd (some 22) none none (.nz (.tmp 17)) <|
    .rd (some 23) none none (.fa 1 (.tmp 22)) <|
    .ef none none 0 (.st 1 (.tmp 23) (.tmp 21)) <|
    .done) <|
  .seq (.reg <| .rd (some 24) none none (.mv (.tmp 2)) <|
    .rd (some 25) none none (.ld (some 5) (.tmp 7)) <|
    .rd (some 26) none none (.bld [(.string ⟨#[]⟩), (.int .u32 0), (.int .u32 0), (.string ⟨#[]⟩), (.string ⟨#[]⟩), (.bool false), (.int .i64 0), (.pointer none), (.pointer none)] [(0, 1, (.tmp 24)), (1, 5, (.tmp 25)), (6, 1, (.const (.int .i64 1)))]) <|
    .ef (some 27) none 0 (.bx 92 9 (.tmp 26)) <|
    .rd (some 8) none none (.mv (.tmp 27)) <|
    .done) <|
  .ret) <|
  .seq (.reg <| .rd (some 29) none none (.mv (.tmp 2)) <|
    .rd (some 30) none none (.mv (.tmp 1)) <|
    .rd (some 31) none none (.nz (.tmp 30)) <|
    .rd (some 32) none none (.fa 0 (.tmp 31)) <|
    .rd (some 33) none none (.ld none (.tmp 32)) <|
    .rd (some 34) none none (.bin .lss (.tmp 29) (.tmp 33)) <|
    .rd (some 28) none none (.mv (.tmp 34)) <|
    .done) <|
  .cond (.tmp 28) (.reg <| .rd (some 35) none none (.mv (.tmp 1)) <|
    .rd (some 36) none none (.mv (.tmp 0)) <|
    .rd (some 37) none none (.mv (.tmp 1)) <|
    .rd (some 38) none none (.nz (.tmp 37)) <|
    .rd (some 39) none none (.fa 7 (.tmp 38)) <|
    .rd (some 40) none (some 2304) (.ld none (.tmp 39)) <|
    .rd (some 41) none none (.mv (.tmp 2)) <|
    .rd (some 42) none (some 2304) (.ld (some 5) (.tmp 7)) <|
    .ef (some 43) none 8 (.cl 51 [(.tmp 36), (.tmp 40), (.tmp 41), (.tmp 42)]) <|
    .rd (some 44) none none (.nz (.tmp 35)) <|
    .rd (some 45) none none (.fa 7 (.tmp 44)) <|
    .ef none none 11 (.st 1 (.tmp 45) (.tmp 43)) <|
    .done) <|
  .seq (.reg <| .rd (some 47) none none (.mv (.tmp 2)) <|
    .rd (some 48) none none (.mv (.tmp 1)) <|
    .rd (some 49) none none (.nz (.tmp 48)) <|
    .rd (some 50) none none (.fa 0 (.tmp 49)) <|
    .rd (some 51) none none (.ld none (.tmp 50)) <|
    .rd (some 52) none none (.bin .gtr (.tmp 47) (.tmp 51)) <|
    .rd (some 46) none none (.mv (.tmp 52)) <|
    .done) <|
  .cond (.tmp 46) (.reg <| .rd (some 53) none none (.mv (.tmp 1)) <|
    .rd (some 54) none none (.mv (.tmp 0)) <|
    .rd (some 55) none none (.mv (.tmp 1)) <|
    .rd (some 56) none none (.nz (.tmp 55)) <|
    .rd (some 57) none none (.fa 8 (.tmp 56)) <|
    .rd (some 58) none (some 2304) (.ld none (.tmp 57)) <|
    .rd (some 59) none none (.mv (.tmp 2)) <|
    .rd (some 60) none (some 2304) (.ld (some 5) (.tmp 7)) <|
    .ef (some 61) none 8 (.cl 51 [(.tmp 54), (.tmp 58), (.tmp 59), (.tmp 60)]) <|
    .rd (some 62) none none (.nz (.tmp 53)) <|
    .rd (some 63) none none (.fa 8 (.tmp 62)) <|
    .ef none none 11 (.st 1 (.tmp 63) (.tmp 61)) <|
    .done) <|
  .seq (.reg <| .rd (some 9) none none (.mv (.tmp 1)) <|
    .rd (some 10) none none (.ld (some 5) (.tmp 7)) <|
    .rd (some 11) none none (.nz (.tmp 9)) <|
    .rd (some 12) none none (.fa 1 (.tmp 11)) <|
    .ef none none 0 (.st 5 (.tmp 12) (.tmp 10)) <|
    .done) <|
  .seq (.reg <| .rd (some 13) none none (.mv (.tmp 1)) <|
    .rd (some 8) none none (.mv (.tmp 13)) <|
    .done) <|
  .ret) <|
  .seq (.reg <| .rd (some 64) none none (.mv (.tmp 1)) <|
    .ef (some 65) none 0 (.cl 68 [(.tmp 64)]) <|
    .rd (some 8) none none (.mv (.tmp 65)) <|
    .done) <|
  .ret⟩
def F51.k : List Nat := [0, 1, 2, 3, 7, 8, 14, 28, 46]
theorem F51.ok : trF Try.prog 51 = some F51 := by kernel_rfl

/- (*dovecote.order.Map[dovecote.latch.owner]).Set -/
def F35 : MF := ⟨19, [],
  .seq (.reg <| .ef (some 5) none 0 (.bx 63 5 (.tmp 2)) <|
    .done) <|
  .seq (.reg <| .rd (some 6) none none (.mv (.tmp 0)) <|
    .rd (some 7) none none (.eqn 4 true (.tmp 6) (.const (.pointer none))) <|
    .done) <|
  .cond (.tmp 7) (.reg <| .rd (some 8) none none (.mv (.tmp 0)) <|
    .rd (some 9) none none (.mv (.tmp 0)) <|
    .rd (some 10) none none (.mv (.tmp 0)) <|
    .rd (some 11) none none (.nz (.tmp 10)) <|
    .rd (some 12) none none (.fa 0 (.tmp 11)) <|
    .rd (some 13) none (some 2304) (.ld none (.tmp 12)) <|
    .rd (some 14) none none (.mv (.tmp 1)) <|
    .rd (some 15) none (some 2304) (.ld (some 5) (.tmp 5)) <|
    .ef (some 16) none 8 (.cl 51 [(.tmp 9), (.tmp 13), (.tmp 14), (.tmp 15)]) <|
    .rd (some 17) none none (.nz (.tmp 8)) <|
    .rd (some 18) none none (.fa 0 (.tmp 17)) <|
    .ef none none 11 (.st 1 (.tmp 18) (.tmp 16)) <|
    .done) <|
  .skip⟩
def F35.k : List Nat := [0, 1, 2, 5, 7]
theorem F35.ok : trF Try.prog 35 = some F35 := by kernel_rfl

/- (*dovecote.order.Map[dovecote.latch.owner]).Get -/
abbrev F30l0 : MC :=
  .seq (.block 0 <|
  .seq (.reg <| .rd (some 16) none none (.mv (.tmp 7)) <|
    .rd (some 17) none none (.eqn 4 false (.tmp 16) (.const (.pointer none))) <|
    .rd (some 15) none none (.mv (.tmp 17)) <|
    .done) <|
  .cond (.tmp 15) (.seq (.reg <| .rd (some 18) none none (.ld (some 5) (.tmp 6)) <|
    .ef none none 0 (.st 5 (.tmp 4) (.tmp 18)) <|
    .rd (some 5) none none (.mv (.const (.bool false))) <|
    .done) <|
  .ret) <|
  .seq (.reg <| .rd (some 20) none none (.mv (.tmp 1)) <|
    .rd (some 21) none none (.mv (.tmp 7)) <|
    .rd (some 22) none none (.nz (.tmp 21)) <|
    .rd (some 23) none none (.fa 0 (.tmp 22)) <|
    .rd (some 24) none none (.ld none (.tmp 23)) <|
    .rd (some 25) none none (.bin .lss (.tmp 20) (.tmp 24)) <|
    .rd (some 19) none none (.mv (.tmp 25)) <|
    .done) <|
  .cond (.tmp 19) (.seq (.reg <| .rd (some 26) none none (.mv (.tmp 7)) <|
    .rd (some 27) none none (.nz (.tmp 26)) <|
    .rd (some 28) none none (.fa 7 (.tmp 27)) <|
    .rd (some 29) none none (.ld none (.tmp 28)) <|
    .rd (some 7) none none (.mv (.tmp 29)) <|
    .done) <|
  .goto 0) <|
  .seq (.reg <| .rd (some 31) none none (.mv (.tmp 1)) <|
    .rd (some 32) none none (.mv (.tmp 7)) <|
    .rd (some 33) none none (.nz (.tmp 32)) <|
    .rd (some 34) none none (.fa 0 (.tmp 33)) <|
    .rd (some 35) none none (.ld none (.tmp 34)) <|
    .rd (some 36) none none (.bin .gtr (.tmp 31) (.tmp 35)) <|
    .rd (some 30) none none (.mv (.tmp 36)) <|
    .done) <|
  .cond (.tmp 30) (.seq (.reg <| .rd (some 37) none none (.mv (.tmp 7)) <|
    .rd (some 38) none none (.nz (.tmp 37)) <|
    .rd (some 39) none none (.fa 8 (.tmp 38)) <|
    .rd (some 40) none none (.ld none (.tmp 39)) <|
    .rd (some 7) none none (.mv (.tmp 40)) <|
    .done) <|
  .goto 0) <|
  .skip) <|
  .seq (.reg <| .rd (some 41) none none (.mv (.tmp 7)) <|
    .rd (some 42) none none (.nz (.tmp 41)) <|
    .rd (some 43) none none (.fa 1 (.tmp 42)) <|
    .rd (some 44) none none (.ld (some 5) (.tmp 43)) <|
    .ef none none 0 (.st 5 (.tmp 4) (.tmp 44)) <|
    .rd (some 5) none none (.mv (.const (.bool true))) <|
    .done) <|
  .ret
abbrev F30s1 : MC :=
  .seq (.reg <| .ef (some 6) none 0 (.al 63 [(.int .u32 0), (.int .u32 0), (.string ⟨#[]⟩), (.string ⟨#[]⟩), (.bool false)]) <|
    .done) <|
  .seq (.seq (.reg <| .rd (some 8) none none (.mv (.tmp 0)) <|
    .rd (some 9) none none (.eqn 4 false (.tmp 8) (.const (.pointer none))) <|
    .done) <|
  .cond (.tmp 9) (.seq (.reg <| .rd (some 10) none none (.ld (some 5) (.tmp 6)) <|
    .ef none none 0 (.st 5 (.tmp 4) (.tmp 10)) <|
    .rd (some 5) none none (.mv (.const (.bool false))) <|
    .done) <|
  .ret) <|
  .skip) <|
  .seq (.reg <| .rd (some 11) none none (.mv (.tmp 0)) <|
    .rd (some 12) none none (.nz (.tmp 11)) <|
    .rd (some 13) none none (.fa 0 (.tmp 12)) <|
    .rd (some 14) none none (.ld none (.tmp 13)) <|
    .rd (some 7) none none (.mv (.tmp 14)) <|
    .done) <|
  .seq (.label 0) F30l0
def F30 : MF := ⟨45, [(4, (some (some 5))), (5, none)],
  .seq (.reg <| .ef (some 4) none 0 (.al 63 [(.int .u32 0), (.int .u32 0), (.string ⟨#[]⟩), (.string ⟨#[]⟩), (.bool false)]) <|
    .rd (some 5) none none (.mv (.const (.bool false))) <|
    .done) <|
  .scope F30s1⟩
def F30.k : List Nat := [0, 1, 4, 5, 6, 7, 9, 15, 19, 30]
theorem F30.ok : trF Try.prog 30 = some F30 := by kernel_rfl

/- (*dovecote.order.node[dovecote.latch.owner]).keys -/
def F52 : MF := ⟨86, [(10, none)],
  .seq (.reg <| .rd (some 10) none none (.mv (.const (.slice none 0 0))) <|
    .done) <|
  .seq (.seq (.reg <| .rd (some 11) none none (.mv (.tmp 0)) <|
    .rd (some 12) none none (.eqn 4 false (.tmp 11) (.const (.pointer none))) <|
    .rd (some 13) none none (.mv (.tmp 12)) <|
    .rd (some 14) (some (13, false)) none (.mv (.tmp 1)) <|
    .rd (some 15) (some (13, false)) none (.len (.tmp 14)) <|
    .rd (some 16) (some (13, false)) none (.mv (.tmp 4)) <|
    .rd (some 17) (some (13, false)) none (.bin .geq (.tmp 15) (.tmp 16)) <|
    .rd (some 18) none none (.pick (.tmp 13) (.const (.bool true)) (.tmp 17)) <|
    .done) <|
  .cond (.tmp 18) (.seq (.reg <| .rd (some 19) none none (.mv (.tmp 1)) <|
    .rd (some 10) none none (.mv (.tmp 19)) <|
    .done) <|
  .ret) <|
  .skip) <|
  .seq (.seq (.reg <| .rd (some 20) none none (.mv (.tmp 2)) <|
    .rd (some 21) none none (.mv (.tmp 0)) <|
    .rd (some 22) none none (.nz (.tmp 21)) <|
    .rd (some 23) none none (.fa 0 (.tmp 22)) <|
    .rd (some 24) none none (.ld none (.tmp 23)) <|
    .rd (some 25) none none (.bin .lss (.tmp 20) (.tmp 24)) <|
    .done) <|
  .cond (.tmp 25) (.reg <| .rd (some 26) none none (.mv (.tmp 0)) <|
    .rd (some 27) none none (.nz (.tmp 26)) <|
    .rd (some 28) none none (.fa 7 (.tmp 27)) <|
    .rd (some 29) none none (.ld none (.tmp 28)) <|
    .rd (some 30) none none (.mv (.tmp 1)) <|
    .rd (some 31) none none (.mv (.tmp 2)) <|
    .rd (some 32) none none (.mv (.tmp 3)) <|
    .rd (some 33) none none (.mv (.tmp 4)) <|
    .ef (some 34) none 0 (.cl 52 [(.tmp 29), (.tmp 30), (.tmp 31), (.tmp 32), (.tmp 33)]) <|
    .rd (some 1) none none (.mv (.tmp 34)) <|
    .done) <|
  .skip) <|
  .seq (.seq (.reg <| .rd (some 35) none none (.mv (.tmp 2)) <|
    .rd (some 36) none none (.mv (.tmp 0)) <|
    .rd (some 37) none none (.nz (.tmp 36)) <|
    .rd (some 38) none none (.fa 0 (.tmp 37)) <|
    .rd (some 39) none none (.ld none (.tmp 38)) <|
    .rd (some 40) none none (.bin .leq (.tmp 35) (.tmp 39)) <|
    .rd (some 41) none none (.mv (.tmp 40)) <|
    .rd (some 42) (some (41, true)) none (.mv (.tmp 3)) <|
    .rd (some 43) (some (41, true)) none (.bin .eql (.tmp 42) (.const (.string ⟨#[]⟩))) <|
    .rd (some 44) (some (41, true)) none (.mv (.tmp 43)) <|
    .rd (some 45) (some (44, false)) none (.mv (.tmp 0)) <|
    .rd (some 46) (some (44, false)) none (.nz (.tmp 45)) <|
    .rd (some 47) (some (44, false)) none (.fa 0 (.tmp 46)) <|
    .rd (some 48) (some (44, false)) none (.ld none (.tmp 47)) <|
    .rd (some 49) (some (44, false)) none (.mv (.tmp 3)) <|
    .rd (some 50) (some (44, false)) none (.bin .lss (.tmp 48) (.tmp 49)) <|
    .rd (some 51) (some (41, true)) none (.pick (.tmp 44) (.const (.bool true)) (.tmp 50)) <|
    .rd (some 52) none none (.pick (.tmp 41) (.tmp 51) (.const (.bool false))) <|
    .rd (some 53) none none (.mv (.tmp 52)) <|
    .rd (some 54) (some (53, true)) none (.mv (.tmp 1)) <|
    .rd (some 55) (some (53, true)) none (.len (.tmp 54)) <|
    .rd (some 56) (some (53, true)) none (.mv (.tmp 4)) <|
    .rd (some 57) (some (53, true)) none (.bin .lss (.tmp 55) (.tmp 56)) <|
    .rd (some 58) none none (.pick (.tmp 53) (.tmp 57) (.const (.bool false))) <|
    .done) <|
  .cond (.tmp 58) (.reg <| .rd (some 59) none none (.mv (.tmp 1)) <|
    .rd (some 60) none none (.mv (.tmp 0)) <|
    .rd (some 61) none none (.nz (.tmp 60)) <|
    .rd (some 62) none none (.fa 0 (.tmp 61)) <|
    .rd (some 63) none none (.ld none (.tmp 62)) <|
    .ef (some 64) none 0 (.raw ⟨none, (.buildSlice 79 1 #[(0, (.tmp 63))]), 79, "", #[], none⟩) <|
    .ef (some 65) none 0 (.raw ⟨none, (.call ⟨(.builtin .append), #[(.tmp 59), (.tmp 64)], #[79, 79]⟩), 79, "", #[], none⟩) <|
    .rd (some 1) none none (.mv (.tmp 65)) <|
    .done) <|
  .skip) <|
  .seq (.seq (.reg <| .rd (some 66) none none (.mv (.tmp 3)) <|
    .rd (some 67) none none (.bin .eql (.tmp 66) (.const (.string ⟨#[]⟩))) <|
    .rd (some 68) none none (.mv (.tmp 67)) <|
    .rd (some 69) (some (68, false)) none (.mv (.tmp 0)) <|
    .rd (some 70) (some (68, false)) none (.nz (.tmp 69)) <|
    .rd (some 71) (some (68, false)) none (.fa 0 (.tmp 70)) <|
    .rd (some 72) (some (68, false)) none (.ld none (.tmp 71)) <|
    .rd (some 73) (some (68, false)) none (.mv (.tmp 3)) <|
    .rd (some 74) (some (68, false)) none (.bin .lss (.tmp 72) (.tmp 73)) <|
    .rd (some 75) none none (.pick (.tmp 68) (.const (.bool true)) (.tmp 74)) <|
    .done) <|
  .cond (.tmp 75) (.reg <| .rd (some 76) none none (.mv (.tmp 0)) <|
    .rd (some 77) none none (.nz (.tmp 76)) <|
    .rd (some 78) none none (.fa 8 (.tmp 77)) <|
    .rd (some 79) none none (.ld none (.tmp 78)) <|
    .rd (some 80) none none (.mv (.tmp 1)) <|
    .rd (some 81) none none (.mv (.tmp 2)) <|
    .rd (some 82) none none (.mv (.tmp 3)) <|
    .rd (some 83) none none (.mv (.tmp 4)) <|
    .ef (some 84) none 0 (.cl 52 [(.tmp 79), (.tmp 80), (.tmp 81), (.tmp 82), (.tmp 83)]) <|
    .rd (some 1) none none (.mv (.tmp 84)) <|
    .done) <|
  .skip) <|
  .seq (.reg <| .rd (some 85) none none (.mv (.tmp 1)) <|
    .rd (some 10) none none (.mv (.tmp 85)) <|
    .done) <|
  .ret⟩
def F52.k : List Nat := [0, 1, 2, 3, 4, 10, 18, 25, 58, 75]
theorem F52.ok : trF Try.prog 52 = some F52 := by kernel_rfl

/- (*dovecote.order.Map[dovecote.latch.owner]).Keys -/
def F36 : MF := ⟨19, [(8, none)],
  .seq (.reg <| .rd (some 8) none none (.mv (.const (.slice none 0 0))) <|
    .done) <|
  .seq (.seq (.reg <| .rd (some 9) none none (.mv (.tmp 0)) <|
    .rd (some 10) none none (.eqn 4 false (.tmp 9) (.const (.pointer none))) <|
    .done) <|
  .cond (.tmp 10) (.seq (.reg <| .rd (some 8) none none (.mv (.const (.slice none 0 0))) <|
    .done) <|
  .ret) <|
  .skip) <|
  .seq (.reg <| .rd (some 11) none none (.mv (.tmp 0)) <|
    .rd (some 12) none none (.nz (.tmp 11)) <|
    .rd (some 13) none none (.fa 0 (.tmp 12)) <|
    .rd (some 14) none none (.ld none (.tmp 13)) <|
    .rd (some 15) none none (.mv (.tmp 1)) <|
    .rd (some 16) none none (.mv (.tmp 2)) <|
    .rd (some 17) none none (.mv (.tmp 3)) <|
    .ef (some 18) none 0 (.cl 52 [(.tmp 14), (.const (.slice none 0 0)), (.tmp 15), (.tmp 16), (.tmp 17)]) <|
    .rd (some 8) none none (.mv (.tmp 18)) <|
    .done) <|
  .ret⟩
def F36.k : List Nat := [0, 1, 2, 3, 8, 10]
theorem F36.ok : trF Try.prog 36 = some F36 := by kernel_rfl

/- (*dovecote.order.node[dovecote.latch.owner]).first -/
def F71 : MF := ⟨31, [(2, none), (3, none)],
  .seq (.reg <| .rd (some 2) none none (.mv (.const (.pointer none))) <|
    .rd (some 3) none none (.mv (.const (.pointer none))) <|
    .done) <|
  .seq (.seq (.reg <| .rd (some 6) none none (.mv (.tmp 0)) <|
    .rd (some 7) none none (.nz (.tmp 6)) <|
    .rd (some 8) none none (.fa 7 (.tmp 7)) <|
    .rd (some 9) none none (.ld none (.tmp 8)) <|
    .rd (some 10) none none (.eqn 4 false (.tmp 9) (.const (.pointer none))) <|
    .done) <|
  .cond (.tmp 10) (.seq (.reg <| .rd (some 11) none none (.mv (.tmp 0)) <|
    .rd (some 12) none none (.nz (.tmp 11)) <|
    .rd (some 13) none none (.fa 8 (.tmp 12)) <|
    .rd (some 14) none none (.ld none (.tmp 13)) <|
    .rd (some 15) none none (.mv (.tmp 0)) <|
    .rd (some 2) none none (.mv (.tmp 14)) <|
    .rd (some 3) none none (.mv (.tmp 15)) <|
    .done) <|
  .ret) <|
  .skip) <|
  .seq (.reg <| .rd (some 17) none none (.mv (.tmp 0)) <|
    .rd (some 18) none none (.nz (.tmp 17)) <|
    .rd (some 19) none none (.fa 7 (.tmp 18)) <|
    .rd (some 20) none none (.ld none (.tmp 19)) <|
    .ef (some 21) none 0 (.cl 71 [(.tmp 20)]) <|
    .rd (some 16) none none (.mv (.tmp 21)) <|
    .rd (some 22) none none (.ext (.tmp 16) 0) <|
    .rd (some 23) none none (.ext (.tmp 16) 1) <|
    .rd (some 4) none none (.mv (.tmp 22)) <|
    .rd (some 5) none none (.mv (.tmp 23)) <|
    .done) <|
  .seq (.reg <| .rd (some 24) none none (.mv (.tmp 0)) <|
    .rd (some 25) none none (.mv (.tmp 4)) <|
    .rd (some 26) none none (.nz (.tmp 24)) <|
    .rd (some 27) none none (.fa 7 (.tmp 26)) <|
    .ef none none 0 (.st 1 (.tmp 27) (.tmp 25)) <|
    .done) <|
  .seq (.reg <| .rd (some 28) none none (.mv (.tmp 0)) <|
    .ef (some 29) none 0 (.cl 68 [(.tmp 28)]) <|
    .rd (some 30) none none (.mv (.tmp 5)) <|
    .rd (some 2) none none (.mv (.tmp 29)) <|
    .rd (some 3) none none (.mv (.tmp 30)) <|
    .done) <|
  .ret⟩
def F71.k : List Nat := [0, 2, 3, 4, 5, 10]
theorem F71.ok : trF Try.prog 71 = some F71 := by kernel_rfl

/- (*dovecote.order.Map[dovecote.latch.owner]).cut -/
def F57 : MF := ⟨84, [(6, none)],
  .seq (.reg <| .rd (some 6) none none (.mv (.const (.pointer none))) <|
    .done) <|
  .seq (.block 0 <|
  .seq (.reg <| .rd (some 46) none none (.mv (.tmp 1)) <|
    .rd (some 47) none none (.eqn 4 false (.tmp 46) (.const (.pointer none))) <|
    .rd (some 45) none none (.mv (.tmp 47)) <|
    .done) <|
  .cond (.tmp 45) (.seq (.reg <| .rd (some 6) none none (.mv (.const (.pointer none))) <|
    .done) <|
  .ret) <|
  .seq (.reg <| .rd (some 49) none none (.mv (.tmp 2)) <|
    .rd (some 50) none none (.mv (.tmp 1)) <|
    .rd (some 51) none none (.nz (.tmp 50)) <|
    .rd (some 52) none none (.fa 0 (.tmp 51)) <|
    .rd (some 53) none none (.ld none (.tmp 52)) <|
    .rd (some 54) none none (.bin .lss (.tmp 49) (.tmp 53)) <|
    .rd (some 48) none none (.mv (.tmp 54)) <|
    .done) <|
  .cond (.tmp 48) (.reg <| .rd (some 55) none none (.mv (.tmp 1)) <|
    .rd (some 56) none none (.mv (.tmp 0)) <|
    .rd (some 57) none none (.mv (.tmp 1)) <|
    .rd (some 58) none none (.nz (.tmp 57)) <|
    .rd (some 59) none none (.fa 7 (.tmp 58)) <|
    .rd (some 60) none none (.ld none (.tmp 59)) <|
    .rd (some 61) none none (.mv (.tmp 2)) <|
    .ef (some 62) none 0 (.cl 57 [(.tmp 56), (.tmp 60), (.tmp 61)]) <|
    .rd (some 63) none none (.nz (.tmp 55)) <|
    .rd (some 64) none none (.fa 7 (.tmp 63)) <|
    .ef none none 0 (.st 1 (.tmp 64) (.tmp 62)) <|
    .done) <|
  .seq (.reg <| .rd (some 66) none none (.mv (.tmp 2)) <|
    .rd (some 67) none none (.mv (.tmp 1)) <|
    .rd (some 68) none none (.nz (.tmp 67)) <|
    .rd (some 69) none none (.fa 0 (.tmp 68)) <|
    .rd (some 70) none none (.ld none (.tmp 69)) <|
    .rd (some 71) none none (.bin .gtr (.tmp 66) (.tmp 70)) <|
    .rd (some 65) none none (.mv (.tmp 71)) <|
    .done) <|
  .cond (.tmp 65) (.reg <| .rd (some 72) none none (.mv (.tmp 1)) <|
    .rd (some 73) none none (.mv (.tmp 0)) <|
    .rd (some 74) none none (.mv (.tmp 1)) <|
    .rd (some 75) none none (.nz (.tmp 74)) <|
    .rd (some 76) none none (.fa 8 (.tmp 75)) <|
    .rd (some 77) none none (.ld none (.tmp 76)) <|
    .rd (some 78) none none (.mv (.tmp 2)) <|
    .ef (some 79) none 0 (.cl 57 [(.tmp 73), (.tmp 77), (.tmp 78)]) <|
    .rd (some 80) none none (.nz (.tmp 72)) <|
    .rd (some 81) none none (.fa 8 (.tmp 80)) <|
    .ef none none 0 (.st 1 (.tmp 81) (.tmp 79)) <|
    .done) <|
  .seq (.reg <| .rd (some 9) none none (.mv (.tmp 0)) <|
    .rd (some 10) none none (.nz (.tmp 9)) <|
    .rd (some 11) none none (.fa 1 (.tmp 10)) <|
    .rd (some 12) none none (.ld none (.tmp 11)) <|
    .rd (some 13) none none (.bin .sub (.tmp 12) (.const (.int .i64 1))) <|
    .rd (some 14) none none (.nz (.tmp 9)) <|
    .rd (some 15) none none (.fa 1 (.tmp 14)) <|
    .ef none none 0 (.st 1 (.tmp 15) (.tmp 13)) <|
    .done) <|
  .seq (.seq (.reg <| .rd (some 16) none none (.mv (.tmp 1)) <|
    .rd (some 17) none none (.nz (.tmp 16)) <|
    .rd (some 18) none none (.fa 8 (.tmp 17)) <|
    .rd (some 19) none none (.ld none (.tmp 18)) <|
    .rd (some 20) none none (.eqn 4 false (.tmp 19) (.const (.pointer none))) <|
    .done) <|
  .cond (.tmp 20) (.seq (.reg <| .rd (some 21) none none (.mv (.tmp 1)) <|
    .rd (some 22) none none (.nz (.tmp 21)) <|
    .rd (some 23) none none (.fa 7 (.tmp 22)) <|
    .rd (some 24) none none (.ld none (.tmp 23)) <|
    .rd (some 6) none none (.mv (.tmp 24)) <|
    .done) <|
  .ret) <|
  .skip) <|
  .seq (.reg <| .rd (some 26) none none (.mv (.tmp 1)) <|
    .rd (some 27) none none (.nz (.tmp 26)) <|
    .rd (some 28) none none (.fa 8 (.tmp 27)) <|
    .rd (some 29) none none (.ld none (.tmp 28)) <|
    .ef (some 30) none 0 (.cl 71 [(.tmp 29)]) <|
    .rd (some 25) none none (.mv (.tmp 30)) <|
    .rd (some 31) none none (.ext (.tmp 25) 0) <|
    .rd (some 32) none none (.ext (.tmp 25) 1) <|
    .rd (some 7) none none (.mv (.tmp 31)) <|
    .rd (some 8) none none (.mv (.tmp 32)) <|
    .done) <|
  .seq (.reg <| .rd (some 33) none none (.mv (.tmp 8)) <|
    .rd (some 34) none none (.mv (.tmp 8)) <|
    .rd (some 35) none none (.mv (.tmp 1)) <|
    .rd (some 36) none none (.nz (.tmp 35)) <|
    .rd (some 37) none none (.fa 7 (.tmp 36)) <|
    .rd (some 38) none none (.ld none (.tmp 37)) <|
    .rd (some 39) none none (.mv (.tmp 7)) <|
    .rd (some 40) none none (.nz (.tmp 33)) <|
    .rd (some 41) none none (.fa 7 (.tmp 40)) <|
    .ef none none 0 (.st 1 (.tmp 41) (.tmp 38)) <|
    .rd (some 42) none none (.nz (.tmp 34)) <|
    .rd (some 43) none none (.fa 8 (.tmp 42)) <|
    .ef none none 0 (.st 1 (.tmp 43) (.tmp 39)) <|
    .done) <|
  .reg <| .rd (some 44) none none (.mv (.tmp 8)) <|
    .rd (some 1) none none (.mv (.tmp 44)) <|
    .done) <|
  .seq (.reg <| .rd (some 82) none none (.mv (.tmp 1)) <|
    .ef (some 83) none 0 (.cl 68 [(.tmp 82)]) <|
    .rd (some 6) none none (.mv (.tmp 83)) <|
    .done) <|
  .ret⟩
def F57.k : List Nat := [0, 1, 2, 6, 7, 8, 20, 45, 48, 65]
theorem F57.ok : trF Try.prog 57 = some F57 := by kernel_rfl

/- (*dovecote.order.Map[dovecote.latch.owner]).Cut -/
def F40 : MF := ⟨28, [(4, none)],
  .seq (.reg <| .rd (some 4) none none (.mv (.const (.bool false))) <|
    .done) <|
  .seq (.seq (.reg <| .rd (some 6) none none (.mv (.tmp 0)) <|
    .rd (some 7) none none (.eqn 4 false (.tmp 6) (.const (.pointer none))) <|
    .done) <|
  .cond (.tmp 7) (.seq (.reg <| .rd (some 4) none none (.mv (.const (.bool false))) <|
    .done) <|
  .ret) <|
  .skip) <|
  .seq (.reg <| .rd (some 8) none none (.mv (.tmp 0)) <|
    .rd (some 9) none none (.nz (.tmp 8)) <|
    .rd (some 10) none none (.fa 1 (.tmp 9)) <|
    .rd (some 11) none none (.ld none (.tmp 10)) <|
    .rd (some 5) none none (.mv (.tmp 11)) <|
    .done) <|
  .seq (.reg <| .rd (some 12) none none (.mv (.tmp 0)) <|
    .rd (some 13) none none (.mv (.tmp 0)) <|
    .rd (some 14) none none (.mv (.tmp 0)) <|
    .rd (some 15) none none (.nz (.tmp 14)) <|
    .rd (some 16) none none (.fa 0 (.tmp 15)) <|
    .rd (some 17) none none (.ld none (.tmp 16)) <|
    .rd (some 18) none none (.mv (.tmp 1)) <|
    .ef (some 19) none 0 (.cl 57 [(.tmp 13), (.tmp 17), (.tmp 18)]) <|
    .rd (some 20) none none (.nz (.tmp 12)) <|
    .rd (some 21) none none (.fa 0 (.tmp 20)) <|
    .ef none none 0 (.st 1 (.tmp 21) (.tmp 19)) <|
    .done) <|
  .seq (.reg <| .rd (some 22) none none (.mv (.tmp 0)) <|
    .rd (some 23) none none (.nz (.tmp 22)) <|
    .rd (some 24) none none (.fa 1 (.tmp 23)) <|
    .rd (some 25) none none (.ld none (.tmp 24)) <|
    .rd (some 26) none none (.mv (.tmp 5)) <|
    .rd (some 27) none none (.bin .lss (.tmp 25) (.tmp 26)) <|
    .rd (some 4) none none (.mv (.tmp 27)) <|
    .done) <|
  .ret⟩
def F40.k : List Nat := [0, 1, 4, 5, 7]
theorem F40.ok : trF Try.prog 40 = some F40 := by kernel_rfl

/- dovecote.order.New[dovecote.latch.owner] -/
def F26 : MF := ⟨3, [(0, none)],
  .seq (.reg <| .rd (some 0) none none (.mv (.const (.pointer none))) <|
    .done) <|
  .seq (.reg <| .rd (some 1) none none (.bld [(.pointer none), (.int .i64 0)] []) <|
    .ef (some 2) none 0 (.bx 90 2 (.tmp 1)) <|
    .rd (some 0) none none (.mv (.tmp 2)) <|
    .done) <|
  .ret⟩
def F26.k : List Nat := [0]
theorem F26.ok : trF Try.prog 26 = some F26 := by kernel_rfl

/- (*dovecote.order.Map[dovecote.latch.owner]).Len -/
-- NOT TRANSLATED 97 (*dovecote/order.Map[dovecote/latch.owner]).Len

end Go.Proofs.Ythcbefkgfhokoaa

namespace Go.Proofs.Ythcbefkgfhokoaa
open Go Go.Dv
set_option maxRecDepth 100000
attribute [local irreducible] HTh HM En Fsp

theorem mix : Try.prog.follows .mixedOrders = true := by kernel_rfl

inductive Tr (V : Type) where
  | nil
  | node (k : ByteArray) (v : V) (hi : Int) (l r : Tr V)

structure Ow where
  c : Int
  n : Int
  key : ByteArray
  val : ByteArray
  dead : Bool
def Ow.enc (v : Ow) : List Value := [.int .u32 v.c, .int .u32 v.n, .string v.key, .string v.val, .bool v.dead]
def nodeCells (k : ByteArray) (v : Ow) (hi : Int) (al ar : Option Addr) : List Value :=
  [.string k, .int .u32 v.c, .int .u32 v.n, .string v.key, .string v.val, .bool v.dead, .int .i64 hi, .pointer al, .pointer ar]
def TrA : Option Addr → Tr Ow → HP
  | a, .nil => fun _ => a = none
  | a, .node k v hi l r => fun h => ∃ x : Nat × Option Addr × Option Addr, a = some ⟨x.1, 0, none⟩ ∧ Sep [Cl x.1 92 (nodeCells k v hi x.2.1 x.2.2), TrA x.2.1 l, TrA x.2.2 r] h
def height : Tr Ow → Int
  | .nil => 0
  | .node _ _ hi _ _ => hi

theorem en_tree {a : Option Addr} {k : ByteArray} {v : Ow} {hi : Int} {l r : Tr Ow} {aa rs : List HP} {J : PH → Prop} (pk : Pk aa (TrA a (.node k v hi l r)) rs)
    (m : ∀ b al ar, a = some ⟨b, 0, none⟩ → En (Cl b 92 (nodeCells k v hi al ar) :: TrA al l :: TrA ar r :: rs) J) : En aa J :=
  en_open (x := TrA a (.node k v hi l r)) (fun _ h => h) pk fun x hx => m x.1 x.2.1 x.2.2 hx
theorem en_nil {a : Option Addr} {aa rs : List HP} {J : PH → Prop} (pk : Pk aa (TrA a .nil) rs) (m : a = none → En aa J) : En aa J :=
  en_fact (φ := a = none) (fun _ h => h) pk m
theorem en_nl {aa : List HP} {J : PH → Prop} (m : En (TrA none .nil :: aa) J) : En aa J := en_emp (x := TrA none .nil) rfl m
theorem en_node {b : Nat} {al ar : Option Addr} {k : ByteArray} {v : Ow} {hi : Int} {l r : Tr Ow} {aa rs : List HP} {J : PH → Prop} (sx : Sx aa [Cl b 92 (nodeCells k v hi al ar), TrA al l, TrA ar r] rs)
    (m : En (TrA (some ⟨b, 0, none⟩) (.node k v hi l r) :: rs) J) : En aa J :=
  en_fold (fun _ hs => ⟨(b, al, ar), rfl, hs⟩) sx m

attribute [local irreducible] TrA Cl

theorem height_spec (a : Option Addr) (t : Tr Ow) : Fsp Try.prog 78 [.pointer a] [TrA a t] fun v aa' => v = .int .i64 (height t) ∧ aa' = [TrA a t] := by
  refine spec_of F78.ok rfl fun gl X => ?_
  dsimp only [List.cons_append, List.nil_append]
  cases t with
  | nil =>
    refine en_nil (by repeat (first | with_reducible exact Pk.h | with_reducible apply Pk.t)) ?_
    rintro rfl
    (repeat (first | ((with_reducible apply t_run); exact rfl) | ((with_reducible apply t_p); exact rfl; exact rfl) | ((with_reducible apply t_gr); exact rfl) | ((with_reducible apply t_ge); exact rfl) | ((with_reducible apply t_ld); exact rfl; exact rfl; (repeat (first | with_reducible exact Pk.h | with_reducible apply Pk.t)); exact rfl) | ((with_reducible apply t_st); exact rfl; exact rfl; exact rfl; (repeat (first | with_reducible exact Pk.h | with_reducible apply Pk.t)); exact rfl; exact rfl; exact Nat.le_of_ble_eq_true rfl; exact rfl; (repeat (first | apply rk_nil | (apply rk_skip; exact rfl) | (apply rk_ld; exact rfl; (repeat (first | with_reducible exact Pk.h | with_reducible apply Pk.t)); exact rfl)))) | ((with_reducible apply t_nx F78.k); exact rfl; exact rfl) | with_reducible apply m_seq | (with_reducible apply m_reg mix) | with_reducible apply m_block | ((with_reducible apply m_ct); exact rfl) | ((with_reducible apply m_cf); exact rfl) | ((with_reducible apply m_skn); exact rfl) | ((with_reducible apply m_exn); exact rfl)))
    apply m_ret
    · rfl
    · (repeat (first | apply rs_nil | (apply rs_tmp; exact rfl) | (apply rs_cell; exact rfl; (repeat (first | with_reducible exact Pk.h | with_reducible apply Pk.t)); exact rfl)))
    · exact ⟨rfl, rfl⟩
    · exact (by repeat (first | apply Sx.nil | apply Pk.h | apply Sx.cons | apply Pk.t))
  | node k v hi l r =>
    refine en_tree (by repeat (first | with_reducible exact Pk.h | with_reducible apply Pk.t)) ?_
    rintro b al ar rfl
    (repeat (first | ((with_reducible apply t_run); exact rfl) | ((with_reducible apply t_p); exact rfl; exact rfl) | ((with_reducible apply t_gr); exact rfl) | ((with_reducible apply t_ge); exact rfl) | ((with_reducible apply t_ld); exact rfl; exact rfl; (repeat (first | with_reducible exact Pk.h | with_reducible apply Pk.t)); exact rfl) | ((with_reducible apply t_st); exact rfl; exact rfl; exact rfl; (repeat (first | with_reducible exact Pk.h | with_reducible apply Pk.t)); exact rfl; exact rfl; exact Nat.le_of_ble_eq_true rfl; exact rfl; (repeat (first | apply rk_nil | (apply rk_skip; exact rfl) | (apply rk_ld; exact rfl; (repeat (first | with_reducible exact Pk.h | with_reducible apply Pk.t)); exact rfl)))) | ((with_reducible apply t_nx F78.k); exact rfl; exact rfl) | with_reducible apply m_seq | (with_reducible apply m_reg mix) | with_reducible apply m_block | ((with_reducible apply m_ct); exact rfl) | ((with_reducible apply m_cf); exact rfl) | ((with_reducible apply m_skn); exact rfl) | ((with_reducible apply m_exn); exact rfl)))
    refine en_node (by repeat (first | apply Sx.nil | apply Pk.h | apply Sx.cons | apply Pk.t)) ?_
    apply m_ret
    · rfl
    · (repeat (first | apply rs_nil | (apply rs_tmp; exact rfl) | (apply rs_cell; exact rfl; (repeat (first | with_reducible exact Pk.h | with_reducible apply Pk.t)); exact rfl)))
    · exact ⟨rfl, rfl⟩
    · exact (by repeat (first | apply Sx.nil | apply Pk.h | apply Sx.cons | apply Pk.t))

def mh (a b : Int) : Int := IntKind.i64.wrap (1 + (if b > a then b else a))
theorem measure_spec (b : Nat) (k : ByteArray) (v : Ow) (hi : Int) (al ar : Option Addr) (l r : Tr Ow) :
    Fsp Try.prog 77 [.pointer (some ⟨b, 0, none⟩)] [Cl b 92 (nodeCells k v hi al ar), TrA al l, TrA ar r]
      fun u aa' => u = .tuple #[] ∧ aa' = [Cl b 92 (nodeCells k v (mh (height l) (height r)) al ar), TrA al l, TrA ar r] := by
  refine spec_of F77.ok rfl fun gl X => ?_
  dsimp only [List.cons_append, List.nil_append]
  (repeat (first | ((with_reducible apply t_run); exact rfl) | ((with_reducible apply t_p); exact rfl; exact rfl) | ((with_reducible apply t_gr); exact rfl) | ((with_reducible apply t_ge); exact rfl) | ((with_reducible apply t_ld); exact rfl; exact rfl; (repeat (first | with_reducible exact Pk.h | with_reducible apply Pk.t)); exact rfl) | ((with_reducible apply t_st); exact rfl; exact rfl; exact rfl; (repeat (first | with_reducible exact Pk.h | with_reducible apply Pk.t)); exact rfl; exact rfl; exact Nat.le_of_ble_eq_true rfl; exact rfl; (repeat (first | apply rk_nil | (apply rk_skip; exact rfl) | (apply rk_ld; exact rfl; (repeat (first | with_reducible exact Pk.h | with_reducible apply Pk.t)); exact rfl)))) | ((with_reducible apply t_nx F77.k); exact rfl; exact rfl) | with_reducible apply m_seq | (with_reducible apply m_reg mix) | with_reducible apply m_block | ((with_reducible apply m_ct); exact rfl) | ((with_reducible apply m_cf); exact rfl) | ((with_reducible apply m_skn); exact rfl) | ((with_reducible apply m_exn); exact rfl)))
  refine t_cl rfl rfl (height_spec al l) (by repeat (first | apply Sx.nil | apply Pk.h | apply Sx.cons | apply Pk.t)) ?_
  rintro _ _ ⟨rfl, rfl⟩
  refine ⟨?_, ?_⟩ <;> (try dsimp only [List.cons_append, List.nil_append])
  · (repeat (first | apply rk_nil | (apply rk_skip; exact rfl) | (apply rk_ld; exact rfl; (repeat (first | with_reducible exact Pk.h | with_reducible apply Pk.t)); exact rfl)))
  refine t_cl rfl rfl (height_spec ar r) (by repeat (first | apply Sx.nil | apply Pk.h | apply Sx.cons | apply Pk.t)) ?_
  rintro _ _ ⟨rfl, rfl⟩
  refine ⟨?_, ?_⟩ <;> (try dsimp only [List.cons_append, List.nil_append])
  · (repeat (first | apply rk_nil | (apply rk_skip; exact rfl) | (apply rk_ld; exact rfl; (repeat (first | with_reducible exact Pk.h | with_reducible apply Pk.t)); exact rfl)))
  (repeat (first | ((with_reducible apply t_run); exact rfl) | ((with_reducible apply t_p); exact rfl; exact rfl) | ((with_reducible apply t_gr); exact rfl) | ((with_reducible apply t_ge); exact rfl) | ((with_reducible apply t_ld); exact rfl; exact rfl; (repeat (first | with_reducible exact Pk.h | with_reducible apply Pk.t)); exact rfl) | ((with_reducible apply t_st); exact rfl; exact rfl; exact rfl; (repeat (first | with_reducible exact Pk.h | with_reducible apply Pk.t)); exact rfl; exact rfl; exact Nat.le_of_ble_eq_true rfl; exact rfl; (repeat (first | apply rk_nil | (apply rk_skip; exact rfl) | (apply rk_ld; exact rfl; (repeat (first | with_reducible exact Pk.h | with_reducible apply Pk.t)); exact rfl)))) | ((with_reducible apply t_nx F77.k); exact rfl; exact rfl) | with_reducible apply m_seq | (with_reducible apply m_reg mix) | with_reducible apply m_block | ((with_reducible apply m_ct); exact rfl) | ((with_reducible apply m_cf); exact rfl) | ((with_reducible apply m_skn); exact rfl) | ((with_reducible apply m_exn); exact rfl)))
  apply t_ret
  · rfl
  · (repeat (first | apply rs_nil | (apply rs_tmp; exact rfl) | (apply rs_cell; exact rfl; (repeat (first | with_reducible exact Pk.h | with_reducible apply Pk.t)); exact rfl)))
  · exact ⟨rfl, rfl⟩
  · exact (by repeat (first | apply Sx.nil | apply Pk.h | apply Sx.cons | apply Pk.t))

def mk (k : ByteArray) (v : Ow) (l r : Tr Ow) : Tr Ow := .node k v (mh (height l) (height r)) l r
def turnR (k : ByteArray) (v : Ow) (l r : Tr Ow) : Tr Ow := match l with
  | .node lk lv _ ll lr => mk lk lv ll (mk k v lr r)
  | .nil => mk k v l r
def turnL (k : ByteArray) (v : Ow) (l r : Tr Ow) : Tr Ow := match r with
  | .node rk rv _ rl rr => mk rk rv (mk k v l rl) rr
  | .nil => mk k v l r

theorem turnR_spec (a : Option Addr) (k : ByteArray) (v : Ow) (hi lhi : Int) (lk : ByteArray) (lv : Ow) (ll lr r : Tr Ow) :
    Fsp Try.prog 79 [.pointer a, .bool true] [TrA a (.node k v hi (.node lk lv lhi ll lr) r)]
      fun u aa' => ∃ a', u = .pointer a' ∧ aa' = [TrA a' (turnR k v (.node lk lv lhi ll lr) r)] := by
  refine spec_of F79.ok rfl fun gl X => ?_
  dsimp only [List.cons_append, List.nil_append]
  refine en_tree (by repeat (first | with_reducible exact Pk.h | with_reducible apply Pk.t)) ?_
  rintro b al ar rfl
  refine en_tree (a := al) (by repeat (first | with_reducible exact Pk.h | with_reducible apply Pk.t)) ?_
  rintro c bl br rfl
  (repeat (first | ((with_reducible apply t_run); exact rfl) | ((with_reducible apply t_p); exact rfl; exact rfl) | ((with_reducible apply t_gr); exact rfl) | ((with_reducible apply t_ge); exact rfl) | ((with_reducible apply t_ld); exact rfl; exact rfl; (repeat (first | with_reducible exact Pk.h | with_reducible apply Pk.t)); exact rfl) | ((with_reducible apply t_st); exact rfl; exact rfl; exact rfl; (repeat (first | with_reducible exact Pk.h | with_reducible apply Pk.t)); exact rfl; exact rfl; exact Nat.le_of_ble_eq_true rfl; exact rfl; (repeat (first | apply rk_nil | (apply rk_skip; exact rfl) | (apply rk_ld; exact rfl; (repeat (first | with_reducible exact Pk.h | with_reducible apply Pk.t)); exact rfl)))) | ((with_reducible apply t_nx F79.k); exact rfl; exact rfl) | with_reducible apply m_seq | (with_reducible apply m_reg mix) | with_reducible apply m_block | ((with_reducible apply m_ct); exact rfl) | ((with_reducible apply m_cf); exact rfl) | ((with_reducible apply m_skn); exact rfl) | ((with_reducible apply m_exn); exact rfl)))
  refine t_cl rfl rfl (measure_spec b k v hi br ar lr r) (by repeat (first | apply Sx.nil | apply Pk.h | apply Sx.cons | apply Pk.t)) ?_
  rintro _ _ ⟨rfl, rfl⟩
  refine ⟨?_, ?_⟩ <;> (try dsimp only [List.cons_append, List.nil_append])
  · (repeat (first | apply rk_nil | (apply rk_skip; exact rfl) | (apply rk_ld; exact rfl; (repeat (first | with_reducible exact Pk.h | with_reducible apply Pk.t)); exact rfl)))
  (repeat (first | ((with_reducible apply t_run); exact rfl) | ((with_reducible apply t_p); exact rfl; exact rfl) | ((with_reducible apply t_gr); exact rfl) | ((with_reducible apply t_ge); exact rfl) | ((with_reducible apply t_ld); exact rfl; exact rfl; (repeat (first | with_reducible exact Pk.h | with_reducible apply Pk.t)); exact rfl) | ((with_reducible apply t_st); exact rfl; exact rfl; exact rfl; (repeat (first | with_reducible exact Pk.h | with_reducible apply Pk.t)); exact rfl; exact rfl; exact Nat.le_of_ble_eq_true rfl; exact rfl; (repeat (first | apply rk_nil | (apply rk_skip; exact rfl) | (apply rk_ld; exact rfl; (repeat (first | with_reducible exact Pk.h | with_reducible apply Pk.t)); exact rfl)))) | ((with_reducible apply t_nx F79.k); exact rfl; exact rfl) | with_reducible apply m_seq | (with_reducible apply m_reg mix) | with_reducible apply m_block | ((with_reducible apply m_ct); exact rfl) | ((with_reducible apply m_cf); exact rfl) | ((with_reducible apply m_skn); exact rfl) | ((with_reducible apply m_exn); exact rfl)))
  refine en_node (b := b) (l := lr) (r := r) (by repeat (first | apply Sx.nil | apply Pk.h | apply Sx.cons | apply Pk.t)) ?_
  refine t_cl rfl rfl (measure_spec c lk lv lhi bl (some ⟨b, 0, none⟩) ll _) (by repeat (first | apply Sx.nil | apply Pk.h | apply Sx.cons | apply Pk.t)) ?_
  rintro _ _ ⟨rfl, rfl⟩
  refine ⟨?_, ?_⟩ <;> (try dsimp only [List.cons_append, List.nil_append])
  · (repeat (first | apply rk_nil | (apply rk_skip; exact rfl) | (apply rk_ld; exact rfl; (repeat (first | with_reducible exact Pk.h | with_reducible apply Pk.t)); exact rfl)))
  (repeat (first | ((with_reducible apply t_run); exact rfl) | ((with_reducible apply t_p); exact rfl; exact rfl) | ((with_reducible apply t_gr); exact rfl) | ((with_reducible apply t_ge); exact rfl) | ((with_reducible apply t_ld); exact rfl; exact rfl; (repeat (first | with_reducible exact Pk.h | with_reducible apply Pk.t)); exact rfl) | ((with_reducible apply t_st); exact rfl; exact rfl; exact rfl; (repeat (first | with_reducible exact Pk.h | with_reducible apply Pk.t)); exact rfl; exact rfl; exact Nat.le_of_ble_eq_true rfl; exact rfl; (repeat (first | apply rk_nil | (apply rk_skip; exact rfl) | (apply rk_ld; exact rfl; (repeat (first | with_reducible exact Pk.h | with_reducible apply Pk.t)); exact rfl)))) | ((with_reducible apply t_nx F79.k); exact rfl; exact rfl) | with_reducible apply m_seq | (with_reducible apply m_reg mix) | with_reducible apply m_block | ((with_reducible apply m_ct); exact rfl) | ((with_reducible apply m_cf); exact rfl) | ((with_reducible apply m_skn); exact rfl) | ((with_reducible apply m_exn); exact rfl)))
  refine en_node (b := c) (l := ll) (by repeat (first | apply Sx.nil | apply Pk.h | apply Sx.cons | apply Pk.t)) ?_
  apply m_ret
  · rfl
  · (repeat (first | apply rs_nil | (apply rs_tmp; exact rfl) | (apply rs_cell; exact rfl; (repeat (first | with_reducible exact Pk.h | with_reducible apply Pk.t)); exact rfl)))
  · exact ⟨_, rfl, rfl⟩
  · exact (by repeat (first | apply Sx.nil | apply Pk.h | apply Sx.cons | apply Pk.t))

theorem turnL_spec (a : Option Addr) (k : ByteArray) (v : Ow) (hi rhi : Int) (rk : ByteArray) (rv : Ow) (l rl rr : Tr Ow) :
    Fsp Try.prog 79 [.pointer a, .bool false] [TrA a (.node k v hi l (.node rk rv rhi rl rr))]
      fun u aa' => ∃ a', u = .pointer a' ∧ aa' = [TrA a' (turnL k v l (.node rk rv rhi rl rr))] := by
  refine spec_of F79.ok rfl fun gl X => ?_
  dsimp only [List.cons_append, List.nil_append]
  refine en_tree (by repeat (first | with_reducible exact Pk.h | with_reducible apply Pk.t)) ?_
  rintro b al ar rfl
  refine en_tree (a := ar) (by repeat (first | with_reducible exact Pk.h | with_reducible apply Pk.t)) ?_
  rintro c bl br rfl
  (repeat (first | ((with_reducible apply t_run); exact rfl) | ((with_reducible apply t_p); exact rfl; exact rfl) | ((with_reducible apply t_gr); exact rfl) | ((with_reducible apply t_ge); exact rfl) | ((with_reducible apply t_ld); exact rfl; exact rfl; (repeat (first | with_reducible exact Pk.h | with_reducible apply Pk.t)); exact rfl) | ((with_reducible apply t_st); exact rfl; exact rfl; exact rfl; (repeat (first | with_reducible exact Pk.h | with_reducible apply Pk.t)); exact rfl; exact rfl; exact Nat.le_of_ble_eq_true rfl; exact rfl; (repeat (first | apply rk_nil | (apply rk_skip; exact rfl) | (apply rk_ld; exact rfl; (repeat (first | with_reducible exact Pk.h | with_reducible apply Pk.t)); exact rfl)))) | ((with_reducible apply t_nx F79.k); exact rfl; exact rfl) | with_reducible apply m_seq | (with_reducible apply m_reg mix) | with_reducible apply m_block | ((with_reducible apply m_ct); exact rfl) | ((with_reducible apply m_cf); exact rfl) | ((with_reducible apply m_skn); exact rfl) | ((with_reducible apply m_exn); exact rfl)))
  refine t_cl rfl rfl (measure_spec b k v hi al bl l rl) (by repeat (first | apply Sx.nil | apply Pk.h | apply Sx.cons | apply Pk.t)) ?_
  rintro _ _ ⟨rfl, rfl⟩
  refine ⟨?_, ?_⟩ <;> (try dsimp only [List.cons_append, List.nil_append])
  · (repeat (first | apply rk_nil | (apply rk_skip; exact rfl) | (apply rk_ld; exact rfl; (repeat (first | with_reducible exact Pk.h | with_reducible apply Pk.t)); exact rfl)))
  (repeat (first | ((with_reducible apply t_run); exact rfl) | ((with_reducible apply t_p); exact rfl; exact rfl) | ((with_reducible apply t_gr); exact rfl) | ((with_reducible apply t_ge); exact rfl) | ((with_reducible apply t_ld); exact rfl; exact rfl; (repeat (first | with_reducible exact Pk.h | with_reducible apply Pk.t)); exact rfl) | ((with_reducible apply t_st); exact rfl; exact rfl; exact rfl; (repeat (first | with_reducible exact Pk.h | with_reducible apply Pk.t)); exact rfl; exact rfl; exact Nat.le_of_ble_eq_true rfl; exact rfl; (repeat (first | apply rk_nil | (apply rk_skip; exact rfl) | (apply rk_ld; exact rfl; (repeat (first | with_reducible exact Pk.h | with_reducible apply Pk.t)); exact rfl)))) | ((with_reducible apply t_nx F79.k); exact rfl; exact rfl) | with_reducible apply m_seq | (with_reducible apply m_reg mix) | with_reducible apply m_block | ((with_reducible apply m_ct); exact rfl) | ((with_reducible apply m_cf); exact rfl) | ((with_reducible apply m_skn); exact rfl) | ((with_reducible apply m_exn); exact rfl)))
  refine en_node (b := b) (l := l) (r := rl) (by repeat (first | apply Sx.nil | apply Pk.h | apply Sx.cons | apply Pk.t)) ?_
  refine t_cl rfl rfl (measure_spec c rk rv rhi (some ⟨b, 0, none⟩) br _ rr) (by repeat (first | apply Sx.nil | apply Pk.h | apply Sx.cons | apply Pk.t)) ?_
  rintro _ _ ⟨rfl, rfl⟩
  refine ⟨?_, ?_⟩ <;> (try dsimp only [List.cons_append, List.nil_append])
  · (repeat (first | apply rk_nil | (apply rk_skip; exact rfl) | (apply rk_ld; exact rfl; (repeat (first | with_reducible exact Pk.h | with_reducible apply Pk.t)); exact rfl)))
  (repeat (first | ((with_reducible apply t_run); exact rfl) | ((with_reducible apply t_p); exact rfl; exact rfl) | ((with_reducible apply t_gr); exact rfl) | ((with_reducible apply t_ge); exact rfl) | ((with_reducible apply t_ld); exact rfl; exact rfl; (repeat (first | with_reducible exact Pk.h | with_reducible apply Pk.t)); exact rfl) | ((with_reducible apply t_st); exact rfl; exact rfl; exact rfl; (repeat (first | with_reducible exact Pk.h | with_reducible apply Pk.t)); exact rfl; exact rfl; exact Nat.le_of_ble_eq_true rfl; exact rfl; (repeat (first | apply rk_nil | (apply rk_skip; exact rfl) | (apply rk_ld; exact rfl; (repeat (first | with_reducible exact Pk.h | with_reducible apply Pk.t)); exact rfl)))) | ((with_reducible apply t_nx F79.k); exact rfl; exact rfl) | with_reducible apply m_seq | (with_reducible apply m_reg mix) | with_reducible apply m_block | ((with_reducible apply m_ct); exact rfl) | ((with_reducible apply m_cf); exact rfl) | ((with_reducible apply m_skn); exact rfl) | ((with_reducible apply m_exn); exact rfl)))
  refine en_node (b := c) (r := rr) (by repeat (first | apply Sx.nil | apply Pk.h | apply Sx.cons | apply Pk.t)) ?_
  apply m_ret
  · rfl
  · (repeat (first | apply rs_nil | (apply rs_tmp; exact rfl) | (apply rs_cell; exact rfl; (repeat (first | with_reducible exact Pk.h | with_reducible apply Pk.t)); exact rfl)))
  · exact ⟨_, rfl, rfl⟩
  · exact (by repeat (first | apply Sx.nil | apply Pk.h | apply Sx.cons | apply Pk.t))

def df (l r : Tr Ow) : Int := IntKind.i64.wrap (height l - height r)
def isN : Tr Ow → Bool
  | .nil => false
  | _ => true
def evenR (k : ByteArray) (v : Ow) (l r : Tr Ow) : Tr Ow := match l with
  | .node lk lv _ ll lr => if height ll < height lr then turnR k v (turnL lk lv ll lr) r else turnR k v l r
  | .nil => mk k v l r
def evenL (k : ByteArray) (v : Ow) (l r : Tr Ow) : Tr Ow := match r with
  | .node rk rv _ rl rr => if height rr < height rl then turnL k v l (turnR rk rv rl rr) else turnL k v l r
  | .nil => mk k v l r
def even (k : ByteArray) (v : Ow) (l r : Tr Ow) : Tr Ow :=
  if 1 < df l r then evenR k v l r else if df l r < -1 then evenL k v l r else mk k v l r
/-- what 'even' asks, lest it dies -/
def evOk (l r : Tr Ow) : Prop :=
  (1 < df l r → ∃ lk lv lh ll lr, l = .node lk lv lh ll lr ∧ (height ll < height lr → isN lr = true)) ∧
  (df l r < -1 → ∃ rk rv rh rl rr, r = .node rk rv rh rl rr ∧ (height rr < height rl → isN rl = true))

set_option maxHeartbeats 1000000 in
theorem even_spec (a : Option Addr) (k : ByteArray) (v : Ow) (hi : Int) (l r : Tr Ow) (hok : evOk l r) :
    Fsp Try.prog 68 [.pointer a] [TrA a (.node k v hi l r)] fun u aa' => ∃ a', u = .pointer a' ∧ aa' = [TrA a' (even k v l r)] := by
  refine spec_of F68.ok rfl fun gl X => ?_
  dsimp only [List.cons_append, List.nil_append]
  refine en_tree (by repeat (first | with_reducible exact Pk.h | with_reducible apply Pk.t)) ?_
  rintro b al ar rfl
  (repeat (first | ((with_reducible apply t_run); exact rfl) | ((with_reducible apply t_p); exact rfl; exact rfl) | ((with_reducible apply t_gr); exact rfl) | ((with_reducible apply t_ge); exact rfl) | ((with_reducible apply t_ld); exact rfl; exact rfl; (repeat (first | with_reducible exact Pk.h | with_reducible apply Pk.t)); exact rfl) | ((with_reducible apply t_st); exact rfl; exact rfl; exact rfl; (repeat (first | with_reducible exact Pk.h | with_reducible apply Pk.t)); exact rfl; exact rfl; exact Nat.le_of_ble_eq_true rfl; exact rfl; (repeat (first | apply rk_nil | (apply rk_skip; exact rfl) | (apply rk_ld; exact rfl; (repeat (first | with_reducible exact Pk.h | with_reducible apply Pk.t)); exact rfl)))) | ((with_reducible apply t_nx F68.k); exact rfl; exact rfl) | with_reducible apply m_seq | (with_reducible apply m_reg mix) | with_reducible apply m_block | ((with_reducible apply m_ct); exact rfl) | ((with_reducible apply m_cf); exact rfl) | ((with_reducible apply m_skn); exact rfl) | ((with_reducible apply m_exn); exact rfl)))
  refine t_cl rfl rfl (measure_spec b k v hi al ar l r) (by repeat (first | apply Sx.nil | apply Pk.h | apply Sx.cons | apply Pk.t)) ?_
  rintro _ _ ⟨rfl, rfl⟩
  refine ⟨?_, ?_⟩ <;> (try dsimp only [List.cons_append, List.nil_append])
  · (repeat (first | apply rk_nil | (apply rk_skip; exact rfl) | (apply rk_ld; exact rfl; (repeat (first | with_reducible exact Pk.h | with_reducible apply Pk.t)); exact rfl)))
  (repeat (first | ((with_reducible apply t_run); exact rfl) | ((with_reducible apply t_p); exact rfl; exact rfl) | ((with_reducible apply t_gr); exact rfl) | ((with_reducible apply t_ge); exact rfl) | ((with_reducible apply t_ld); exact rfl; exact rfl; (repeat (first | with_reducible exact Pk.h | with_reducible apply Pk.t)); exact rfl) | ((with_reducible apply t_st); exact rfl; exact rfl; exact rfl; (repeat (first | with_reducible exact Pk.h | with_reducible apply Pk.t)); exact rfl; exact rfl; exact Nat.le_of_ble_eq_true rfl; exact rfl; (repeat (first | apply rk_nil | (apply rk_skip; exact rfl) | (apply rk_ld; exact rfl; (repeat (first | with_reducible exact Pk.h | with_reducible apply Pk.t)); exact rfl)))) | ((with_reducible apply t_nx F68.k); exact rfl; exact rfl) | with_reducible apply m_seq | (with_reducible apply m_reg mix) | with_reducible apply m_block | ((with_reducible apply m_ct); exact rfl) | ((with_reducible apply m_cf); exact rfl) | ((with_reducible apply m_skn); exact rfl) | ((with_reducible apply m_exn); exact rfl)))
  refine t_cl rfl rfl (height_spec al l) (by repeat (first | apply Sx.nil | apply Pk.h | apply Sx.cons | apply Pk.t)) ?_
  rintro _ _ ⟨rfl, rfl⟩
  refine ⟨?_, ?_⟩ <;> (try dsimp only [List.cons_append, List.nil_append])
  · (repeat (first | apply rk_nil | (apply rk_skip; exact rfl) | (apply rk_ld; exact rfl; (repeat (first | with_reducible exact Pk.h | with_reducible apply Pk.t)); exact rfl)))
  refine t_cl rfl rfl (height_spec ar r) (by repeat (first | apply Sx.nil | apply Pk.h | apply Sx.cons | apply Pk.t)) ?_
  rintro _ _ ⟨rfl, rfl⟩
  refine ⟨?_, ?_⟩ <;> (try dsimp only [List.cons_append, List.nil_append])
  · (repeat (first | apply rk_nil | (apply rk_skip; exact rfl) | (apply rk_ld; exact rfl; (repeat (first | with_reducible exact Pk.h | with_reducible apply Pk.t)); exact rfl)))
  (repeat (first | ((with_reducible apply t_run); exact rfl) | ((with_reducible apply t_p); exact rfl; exact rfl) | ((with_reducible apply t_gr); exact rfl) | ((with_reducible apply t_ge); exact rfl) | ((with_reducible apply t_ld); exact rfl; exact rfl; (repeat (first | with_reducible exact Pk.h | with_reducible apply Pk.t)); exact rfl) | ((with_reducible apply t_st); exact rfl; exact rfl; exact rfl; (repeat (first | with_reducible exact Pk.h | with_reducible apply Pk.t)); exact rfl; exact rfl; exact Nat.le_of_ble_eq_true rfl; exact rfl; (repeat (first | apply rk_nil | (apply rk_skip; exact rfl) | (apply rk_ld; exact rfl; (repeat (first | with_reducible exact Pk.h | with_reducible apply Pk.t)); exact rfl)))) | ((with_reducible apply t_nx F68.k); exact rfl; exact rfl) | with_reducible apply m_seq | (with_reducible apply m_reg mix) | with_reducible apply m_block | ((with_reducible apply m_ct); exact rfl) | ((with_reducible apply m_cf); exact rfl) | ((with_reducible apply m_skn); exact rfl) | ((with_reducible apply m_exn); exact rfl)))
  refine m_cond rfl (fun hb => ?_) (fun hb => ?_)
  · have h1 : 1 < df l r := of_decide_eq_true hb
    clear hb
    obtain ⟨lk, lv, lh, ll, lr, rfl, hlr⟩ := hok.1 h1
    refine en_tree (a := al) (by repeat (first | with_reducible exact Pk.h | with_reducible apply Pk.t)) ?_
    rintro c bl br rfl
    (repeat (first | ((with_reducible apply t_run); exact rfl) | ((with_reducible apply t_p); exact rfl; exact rfl) | ((with_reducible apply t_gr); exact rfl) | ((with_reducible apply t_ge); exact rfl) | ((with_reducible apply t_ld); exact rfl; exact rfl; (repeat (first | with_reducible exact Pk.h | with_reducible apply Pk.t)); exact rfl) | ((with_reducible apply t_st); exact rfl; exact rfl; exact rfl; (repeat (first | with_reducible exact Pk.h | with_reducible apply Pk.t)); exact rfl; exact rfl; exact Nat.le_of_ble_eq_true rfl; exact rfl; (repeat (first | apply rk_nil | (apply rk_skip; exact rfl) | (apply rk_ld; exact rfl; (repeat (first | with_reducible exact Pk.h | with_reducible apply Pk.t)); exact rfl)))) | ((with_reducible apply t_nx F68.k); exact rfl; exact rfl) | with_reducible apply m_seq | (with_reducible apply m_reg mix) | with_reducible apply m_block | ((with_reducible apply m_ct); exact rfl) | ((with_reducible apply m_cf); exact rfl) | ((with_reducible apply m_skn); exact rfl) | ((with_reducible apply m_exn); exact rfl)))
    refine t_cl rfl rfl (height_spec bl ll) (by repeat (first | apply Sx.nil | apply Pk.h | apply Sx.cons | apply Pk.t)) ?_
    rintro _ _ ⟨rfl, rfl⟩
    refine ⟨?_, ?_⟩ <;> (try dsimp only [List.cons_append, List.nil_append])
    · (repeat (first | apply rk_nil | (apply rk_skip; exact rfl) | (apply rk_ld; exact rfl; (repeat (first | with_reducible exact Pk.h | with_reducible apply Pk.t)); exact rfl)))
    refine t_cl rfl rfl (height_spec br lr) (by repeat (first | apply Sx.nil | apply Pk.h | apply Sx.cons | apply Pk.t)) ?_
    rintro _ _ ⟨rfl, rfl⟩
    refine ⟨?_, ?_⟩ <;> (try dsimp only [List.cons_append, List.nil_append])
    · (repeat (first | apply rk_nil | (apply rk_skip; exact rfl) | (apply rk_ld; exact rfl; (repeat (first | with_reducible exact Pk.h | with_reducible apply Pk.t)); exact rfl)))
    (repeat (first | ((with_reducible apply t_run); exact rfl) | ((with_reducible apply t_p); exact rfl; exact rfl) | ((with_reducible apply t_gr); exact rfl) | ((with_reducible apply t_ge); exact rfl) | ((with_reducible apply t_ld); exact rfl; exact rfl; (repeat (first | with_reducible exact Pk.h | with_reducible apply Pk.t)); exact rfl) | ((with_reducible apply t_st); exact rfl; exact rfl; exact rfl; (repeat (first | with_reducible exact Pk.h | with_reducible apply Pk.t)); exact rfl; exact rfl; exact Nat.le_of_ble_eq_true rfl; exact rfl; (repeat (first | apply rk_nil | (apply rk_skip; exact rfl) | (apply rk_ld; exact rfl; (repeat (first | with_reducible exact Pk.h | with_reducible apply Pk.t)); exact rfl)))) | ((with_reducible apply t_nx F68.k); exact rfl; exact rfl) | with_reducible apply m_seq | (with_reducible apply m_reg mix) | with_reducible apply m_block | ((with_reducible apply m_ct); exact rfl) | ((with_reducible apply m_cf); exact rfl) | ((with_reducible apply m_skn); exact rfl) | ((with_reducible apply m_exn); exact rfl)))
    refine m_cond rfl (fun hb2 => ?_) (fun hb2 => ?_)
    · have h2 : height ll < height lr := of_decide_eq_true hb2
      have h3 := hlr h2
      have he : even k v (.node lk lv lh ll lr) r = turnR k v (turnL lk lv ll lr) r := by
        unfold even evenR; rw [if_pos h1]; simp only [h2, if_true]
      rw [he]
      clear he hb2 hlr hok
      cases lr with
      | nil => cases h3
      | node rk rv rh rl rr =>
        (repeat (first | ((with_reducible apply t_run); exact rfl) | ((with_reducible apply t_p); exact rfl; exact rfl) | ((with_reducible apply t_gr); exact rfl) | ((with_reducible apply t_ge); exact rfl) | ((with_reducible apply t_ld); exact rfl; exact rfl; (repeat (first | with_reducible exact Pk.h | with_reducible apply Pk.t)); exact rfl) | ((with_reducible apply t_st); exact rfl; exact rfl; exact rfl; (repeat (first | with_reducible exact Pk.h | with_reducible apply Pk.t)); exact rfl; exact rfl; exact Nat.le_of_ble_eq_true rfl; exact rfl; (repeat (first | apply rk_nil | (apply rk_skip; exact rfl) | (apply rk_ld; exact rfl; (repeat (first | with_reducible exact Pk.h | with_reducible apply Pk.t)); exact rfl)))) | ((with_reducible apply t_nx F68.k); exact rfl; exact rfl) | with_reducible apply m_seq | (with_reducible apply m_reg mix) | with_reducible apply m_block | ((with_reducible apply m_ct); exact rfl) | ((with_reducible apply m_cf); exact rfl) | ((with_reducible apply m_skn); exact rfl) | ((with_reducible apply m_exn); exact rfl)))
        refine en_node (b := c) (l := ll) (r := .node rk rv rh rl rr) (by repeat (first | apply Sx.nil | apply Pk.h | apply Sx.cons | apply Pk.t)) ?_
        refine t_cl rfl rfl (turnL_spec (some ⟨c, 0, none⟩) lk lv lh rh rk rv ll rl rr) (by repeat (first | apply Sx.nil | apply Pk.h | apply Sx.cons | apply Pk.t)) ?_
        rintro _ _ ⟨a', rfl, rfl⟩
        refine ⟨?_, ?_⟩ <;> (try dsimp only [List.cons_append, List.nil_append])
        · (repeat (first | apply rk_nil | (apply rk_skip; exact rfl) | (apply rk_ld; exact rfl; (repeat (first | with_reducible exact Pk.h | with_reducible apply Pk.t)); exact rfl)))
        (repeat (first | ((with_reducible apply t_run); exact rfl) | ((with_reducible apply t_p); exact rfl; exact rfl) | ((with_reducible apply t_gr); exact rfl) | ((with_reducible apply t_ge); exact rfl) | ((with_reducible apply t_ld); exact rfl; exact rfl; (repeat (first | with_reducible exact Pk.h | with_reducible apply Pk.t)); exact rfl) | ((with_reducible apply t_st); exact rfl; exact rfl; exact rfl; (repeat (first | with_reducible exact Pk.h | with_reducible apply Pk.t)); exact rfl; exact rfl; exact Nat.le_of_ble_eq_true rfl; exact rfl; (repeat (first | apply rk_nil | (apply rk_skip; exact rfl) | (apply rk_ld; exact rfl; (repeat (first | with_reducible exact Pk.h | with_reducible apply Pk.t)); exact rfl)))) | ((with_reducible apply t_nx F68.k); exact rfl; exact rfl) | with_reducible apply m_seq | (with_reducible apply m_reg mix) | with_reducible apply m_block | ((with_reducible apply m_ct); exact rfl) | ((with_reducible apply m_cf); exact rfl) | ((with_reducible apply m_skn); exact rfl) | ((with_reducible apply m_exn); exact rfl)))
        refine en_node (b := b) (r := r) (by repeat (first | apply Sx.nil | apply Pk.h | apply Sx.cons | apply Pk.t)) ?_
        refine t_cl rfl rfl (turnR_spec (some ⟨b, 0, none⟩) k v _ _ rk rv (mk lk lv ll rl) rr r) (by repeat (first | apply Sx.nil | apply Pk.h | apply Sx.cons | apply Pk.t)) ?_
        rintro _ _ ⟨a2, rfl, rfl⟩
        refine ⟨?_, ?_⟩ <;> (try dsimp only [List.cons_append, List.nil_append])
        · (repeat (first | apply rk_nil | (apply rk_skip; exact rfl) | (apply rk_ld; exact rfl; (repeat (first | with_reducible exact Pk.h | with_reducible apply Pk.t)); exact rfl)))
        (repeat (first | ((with_reducible apply t_run); exact rfl) | ((with_reducible apply t_p); exact rfl; exact rfl) | ((with_reducible apply t_gr); exact rfl) | ((with_reducible apply t_ge); exact rfl) | ((with_reducible apply t_ld); exact rfl; exact rfl; (repeat (first | with_reducible exact Pk.h | with_reducible apply Pk.t)); exact rfl) | ((with_reducible apply t_st); exact rfl; exact rfl; exact rfl; (repeat (first | with_reducible exact Pk.h | with_reducible apply Pk.t)); exact rfl; exact rfl; exact Nat.le_of_ble_eq_true rfl; exact rfl; (repeat (first | apply rk_nil | (apply rk_skip; exact rfl) | (apply rk_ld; exact rfl; (repeat (first | with_reducible exact Pk.h | with_reducible apply Pk.t)); exact rfl)))) | ((with_reducible apply t_nx F68.k); exact rfl; exact rfl) | with_reducible apply m_seq | (with_reducible apply m_reg mix) | with_reducible apply m_block | ((with_reducible apply m_ct); exact rfl) | ((with_reducible apply m_cf); exact rfl) | ((with_reducible apply m_skn); exact rfl) | ((with_reducible apply m_exn); exact rfl)))
        apply m_ret
        · rfl
        · (repeat (first | apply rs_nil | (apply rs_tmp; exact rfl) | (apply rs_cell; exact rfl; (repeat (first | with_reducible exact Pk.h | with_reducible apply Pk.t)); exact rfl)))
        · exact ⟨_, rfl, rfl⟩
        · exact (by repeat (first | apply Sx.nil | apply Pk.h | apply Sx.cons | apply Pk.t))
    · have h2 : ¬ height ll < height lr := of_decide_eq_false hb2
      have he : even k v (.node lk lv lh ll lr) r = turnR k v (.node lk lv lh ll lr) r := by
        unfold even evenR; rw [if_pos h1]; simp only [h2, if_false]
      rw [he]
      clear he hb2 hlr hok
      (repeat (first | ((with_reducible apply t_run); exact rfl) | ((with_reducible apply t_p); exact rfl; exact rfl) | ((with_reducible apply t_gr); exact rfl) | ((with_reducible apply t_ge); exact rfl) | ((with_reducible apply t_ld); exact rfl; exact rfl; (repeat (first | with_reducible exact Pk.h | with_reducible apply Pk.t)); exact rfl) | ((with_reducible apply t_st); exact rfl; exact rfl; exact rfl; (repeat (first | with_reducible exact Pk.h | with_reducible apply Pk.t)); exact rfl; exact rfl; exact Nat.le_of_ble_eq_true rfl; exact rfl; (repeat (first | apply rk_nil | (apply rk_skip; exact rfl) | (apply rk_ld; exact rfl; (repeat (first | with_reducible exact Pk.h | with_reducible apply Pk.t)); exact rfl)))) | ((with_reducible apply t_nx F68.k); exact rfl; exact rfl) | with_reducible apply m_seq | (with_reducible apply m_reg mix) | with_reducible apply m_block | ((with_reducible apply m_ct); exact rfl) | ((with_reducible apply m_cf); exact rfl) | ((with_reducible apply m_skn); exact rfl) | ((with_reducible apply m_exn); exact rfl)))
      refine en_node (b := c) (l := ll) (r := lr) (by repeat (first | apply Sx.nil | apply Pk.h | apply Sx.cons | apply Pk.t)) ?_
      refine en_node (b := b) (r := r) (by repeat (first | apply Sx.nil | apply Pk.h | apply Sx.cons | apply Pk.t)) ?_
      refine t_cl rfl rfl (turnR_spec (some ⟨b, 0, none⟩) k v _ lh lk lv ll lr r) (by repeat (first | apply Sx.nil | apply Pk.h | apply Sx.cons | apply Pk.t)) ?_
      rintro _ _ ⟨a2, rfl, rfl⟩
      refine ⟨?_, ?_⟩ <;> (try dsimp only [List.cons_append, List.nil_append])
      · (repeat (first | apply rk_nil | (apply rk_skip; exact rfl) | (apply rk_ld; exact rfl; (repeat (first | with_reducible exact Pk.h | with_reducible apply Pk.t)); exact rfl)))
      (repeat (first | ((with_reducible apply t_run); exact rfl) | ((with_reducible apply t_p); exact rfl; exact rfl) | ((with_reducible apply t_gr); exact rfl) | ((with_reducible apply t_ge); exact rfl) | ((with_reducible apply t_ld); exact rfl; exact rfl; (repeat (first | with_reducible exact Pk.h | with_reducible apply Pk.t)); exact rfl) | ((with_reducible apply t_st); exact rfl; exact rfl; exact rfl; (repeat (first | with_reducible exact Pk.h | with_reducible apply Pk.t)); exact rfl; exact rfl; exact Nat.le_of_ble_eq_true rfl; exact rfl; (repeat (first | apply rk_nil | (apply rk_skip; exact rfl) | (apply rk_ld; exact rfl; (repeat (first | with_reducible exact Pk.h | with_reducible apply Pk.t)); exact rfl)))) | ((with_reducible apply t_nx F68.k); exact rfl; exact rfl) | with_reducible apply m_seq | (with_reducible apply m_reg mix) | with_reducible apply m_block | ((with_reducible apply m_ct); exact rfl) | ((with_reducible apply m_cf); exact rfl) | ((with_reducible apply m_skn); exact rfl) | ((with_reducible apply m_exn); exact rfl)))
      apply m_ret
      · rfl
      · (repeat (first | apply rs_nil | (apply rs_tmp; exact rfl) | (apply rs_cell; exact rfl; (repeat (first | with_reducible exact Pk.h | with_reducible apply Pk.t)); exact rfl)))
      · exact ⟨_, rfl, rfl⟩
      · exact (by repeat (first | apply Sx.nil | apply Pk.h | apply Sx.cons | apply Pk.t))
  · have h1 : ¬ 1 < df l r := of_decide_eq_false hb
    clear hb
    (repeat (first | ((with_reducible apply t_run); exact rfl) | ((with_reducible apply t_p); exact rfl; exact rfl) | ((with_reducible apply t_gr); exact rfl) | ((with_reducible apply t_ge); exact rfl) | ((with_reducible apply t_ld); exact rfl; exact rfl; (repeat (first | with_reducible exact Pk.h | with_reducible apply Pk.t)); exact rfl) | ((with_reducible apply t_st); exact rfl; exact rfl; exact rfl; (repeat (first | with_reducible exact Pk.h | with_reducible apply Pk.t)); exact rfl; exact rfl; exact Nat.le_of_ble_eq_true rfl; exact rfl; (repeat (first | apply rk_nil | (apply rk_skip; exact rfl) | (apply rk_ld; exact rfl; (repeat (first | with_reducible exact Pk.h | with_reducible apply Pk.t)); exact rfl)))) | ((with_reducible apply t_nx F68.k); exact rfl; exact rfl) | with_reducible apply m_seq | (with_reducible apply m_reg mix) | with_reducible apply m_block | ((with_reducible apply m_ct); exact rfl) | ((with_reducible apply m_cf); exact rfl) | ((with_reducible apply m_skn); exact rfl) | ((with_reducible apply m_exn); exact rfl)))
    refine m_cond rfl (fun hb => ?_) (fun hb => ?_)
    · have h4 : df l r < -1 := of_decide_eq_true hb
      clear hb
      obtain ⟨rk, rv, rh, rl, rr, rfl, hlr⟩ := hok.2 h4
      refine en_tree (a := ar) (by repeat (first | with_reducible exact Pk.h | with_reducible apply Pk.t)) ?_
      rintro c bl br rfl
      (repeat (first | ((with_reducible apply t_run); exact rfl) | ((with_reducible apply t_p); exact rfl; exact rfl) | ((with_reducible apply t_gr); exact rfl) | ((with_reducible apply t_ge); exact rfl) | ((with_reducible apply t_ld); exact rfl; exact rfl; (repeat (first | with_reducible exact Pk.h | with_reducible apply Pk.t)); exact rfl) | ((with_reducible apply t_st); exact rfl; exact rfl; exact rfl; (repeat (first | with_reducible exact Pk.h | with_reducible apply Pk.t)); exact rfl; exact rfl; exact Nat.le_of_ble_eq_true rfl; exact rfl; (repeat (first | apply rk_nil | (apply rk_skip; exact rfl) | (apply rk_ld; exact rfl; (repeat (first | with_reducible exact Pk.h | with_reducible apply Pk.t)); exact rfl)))) | ((with_reducible apply t_nx F68.k); exact rfl; exact rfl) | with_reducible apply m_seq | (with_reducible apply m_reg mix) | with_reducible apply m_block | ((with_reducible apply m_ct); exact rfl) | ((with_reducible apply m_cf); exact rfl) | ((with_reducible apply m_skn); exact rfl) | ((with_reducible apply m_exn); exact rfl)))
      refine t_cl rfl rfl (height_spec br rr) (by repeat (first | apply Sx.nil | apply Pk.h | apply Sx.cons | apply Pk.t)) ?_
      rintro _ _ ⟨rfl, rfl⟩
      refine ⟨?_, ?_⟩ <;> (try dsimp only [List.cons_append, List.nil_append])
      · (repeat (first | apply rk_nil | (apply rk_skip; exact rfl) | (apply rk_ld; exact rfl; (repeat (first | with_reducible exact Pk.h | with_reducible apply Pk.t)); exact rfl)))
      refine t_cl rfl rfl (height_spec bl rl) (by repeat (first | apply Sx.nil | apply Pk.h | apply Sx.cons | apply Pk.t)) ?_
      rintro _ _ ⟨rfl, rfl⟩
      refine ⟨?_, ?_⟩ <;> (try dsimp only [List.cons_append, List.nil_append])
      · (repeat (first | apply rk_nil | (apply rk_skip; exact rfl) | (apply rk_ld; exact rfl; (repeat (first | with_reducible exact Pk.h | with_reducible apply Pk.t)); exact rfl)))
      (repeat (first | ((with_reducible apply t_run); exact rfl) | ((with_reducible apply t_p); exact rfl; exact rfl) | ((with_reducible apply t_gr); exact rfl) | ((with_reducible apply t_ge); exact rfl) | ((with_reducible apply t_ld); exact rfl; exact rfl; (repeat (first | with_reducible exact Pk.h | with_reducible apply Pk.t)); exact rfl) | ((with_reducible apply t_st); exact rfl; exact rfl; exact rfl; (repeat (first | with_reducible exact Pk.h | with_reducible apply Pk.t)); exact rfl; exact rfl; exact Nat.le_of_ble_eq_true rfl; exact rfl; (repeat (first | apply rk_nil | (apply rk_skip; exact rfl) | (apply rk_ld; exact rfl; (repeat (first | with_reducible exact Pk.h | with_reducible apply Pk.t)); exact rfl)))) | ((with_reducible apply t_nx F68.k); exact rfl; exact rfl) | with_reducible apply m_seq | (with_reducible apply m_reg mix) | with_reducible apply m_block | ((with_reducible apply m_ct); exact rfl) | ((with_reducible apply m_cf); exact rfl) | ((with_reducible apply m_skn); exact rfl) | ((with_reducible apply m_exn); exact rfl)))
      refine m_cond rfl (fun hb2 => ?_) (fun hb2 => ?_)
      · have h2 : height rr < height rl := of_decide_eq_true hb2
        have h3 := hlr h2
        have he : even k v l (.node rk rv rh rl rr) = turnL k v l (turnR rk rv rl rr) := by
          unfold even evenL; rw [if_neg h1, if_pos h4]; simp only [h2, if_true]
        rw [he]
        clear he hb2 hlr hok
        cases rl with
        | nil => cases h3
        | node lk lv lh ll lr =>
          (repeat (first | ((with_reducible apply t_run); exact rfl) | ((with_reducible apply t_p); exact rfl; exact rfl) | ((with_reducible apply t_gr); exact rfl) | ((with_reducible apply t_ge); exact rfl) | ((with_reducible apply t_ld); exact rfl; exact rfl; (repeat (first | with_reducible exact Pk.h | with_reducible apply Pk.t)); exact rfl) | ((with_reducible apply t_st); exact rfl; exact rfl; exact rfl; (repeat (first | with_reducible exact Pk.h | with_reducible apply Pk.t)); exact rfl; exact rfl; exact Nat.le_of_ble_eq_true rfl; exact rfl; (repeat (first | apply rk_nil | (apply rk_skip; exact rfl) | (apply rk_ld; exact rfl; (repeat (first | with_reducible exact Pk.h | with_reducible apply Pk.t)); exact rfl)))) | ((with_reducible apply t_nx F68.k); exact rfl; exact rfl) | with_reducible apply m_seq | (with_reducible apply m_reg mix) | with_reducible apply m_block | ((with_reducible apply m_ct); exact rfl) | ((with_reducible apply m_cf); exact rfl) | ((with_reducible apply m_skn); exact rfl) | ((with_reducible apply m_exn); exact rfl)))
          refine en_node (b := c) (l := .node lk lv lh ll lr) (r := rr) (by repeat (first | apply Sx.nil | apply Pk.h | apply Sx.cons | apply Pk.t)) ?_
          refine t_cl rfl rfl (turnR_spec (some ⟨c, 0, none⟩) rk rv rh lh lk lv ll lr rr) (by repeat (first | apply Sx.nil | apply Pk.h | apply Sx.cons | apply Pk.t)) ?_
          rintro _ _ ⟨a', rfl, rfl⟩
          refine ⟨?_, ?_⟩ <;> (try dsimp only [List.cons_append, List.nil_append])
          · (repeat (first | apply rk_nil | (apply rk_skip; exact rfl) | (apply rk_ld; exact rfl; (repeat (first | with_reducible exact Pk.h | with_reducible apply Pk.t)); exact rfl)))
          (repeat (first | ((with_reducible apply t_run); exact rfl) | ((with_reducible apply t_p); exact rfl; exact rfl) | ((with_reducible apply t_gr); exact rfl) | ((with_reducible apply t_ge); exact rfl) | ((with_reducible apply t_ld); exact rfl; exact rfl; (repeat (first | with_reducible exact Pk.h | with_reducible apply Pk.t)); exact rfl) | ((with_reducible apply t_st); exact rfl; exact rfl; exact rfl; (repeat (first | with_reducible exact Pk.h | with_reducible apply Pk.t)); exact rfl; exact rfl; exact Nat.le_of_ble_eq_true rfl; exact rfl; (repeat (first | apply rk_nil | (apply rk_skip; exact rfl) | (apply rk_ld; exact rfl; (repeat (first | with_reducible exact Pk.h | with_reducible apply Pk.t)); exact rfl)))) | ((with_reducible apply t_nx F68.k); exact rfl; exact rfl) | with_reducible apply m_seq | (with_reducible apply m_reg mix) | with_reducible apply m_block | ((with_reducible apply m_ct); exact rfl) | ((with_reducible apply m_cf); exact rfl) | ((with_reducible apply m_skn); exact rfl) | ((with_reducible apply m_exn); exact rfl)))
          refine en_node (b := b) (l := l) (by repeat (first | apply Sx.nil | apply Pk.h | apply Sx.cons | apply Pk.t)) ?_
          refine t_cl rfl rfl (turnL_spec (some ⟨b, 0, none⟩) k v _ _ lk lv l ll (mk rk rv lr rr)) (by repeat (first | apply Sx.nil | apply Pk.h | apply Sx.cons | apply Pk.t)) ?_
          rintro _ _ ⟨a2, rfl, rfl⟩
          refine ⟨?_, ?_⟩ <;> (try dsimp only [List.cons_append, List.nil_append])
          · (repeat (first | apply rk_nil | (apply rk_skip; exact rfl) | (apply rk_ld; exact rfl; (repeat (first | with_reducible exact Pk.h | with_reducible apply Pk.t)); exact rfl)))
          (repeat (first | ((with_reducible apply t_run); exact rfl) | ((with_reducible apply t_p); exact rfl; exact rfl) | ((with_reducible apply t_gr); exact rfl) | ((with_reducible apply t_ge); exact rfl) | ((with_reducible apply t_ld); exact rfl; exact rfl; (repeat (first | with_reducible exact Pk.h | with_reducible apply Pk.t)); exact rfl) | ((with_reducible apply t_st); exact rfl; exact rfl; exact rfl; (repeat (first | with_reducible exact Pk.h | with_reducible apply Pk.t)); exact rfl; exact rfl; exact Nat.le_of_ble_eq_true rfl; exact rfl; (repeat (first | apply rk_nil | (apply rk_skip; exact rfl) | (apply rk_ld; exact rfl; (repeat (first | with_reducible exact Pk.h | with_reducible apply Pk.t)); exact rfl)))) | ((with_reducible apply t_nx F68.k); exact rfl; exact rfl) | with_reducible apply m_seq | (with_reducible apply m_reg mix) | with_reducible apply m_block | ((with_reducible apply m_ct); exact rfl) | ((with_reducible apply m_cf); exact rfl) | ((with_reducible apply m_skn); exact rfl) | ((with_reducible apply m_exn); exact rfl)))
          apply m_ret
          · rfl
          · (repeat (first | apply rs_nil | (apply rs_tmp; exact rfl) | (apply rs_cell; exact rfl; (repeat (first | with_reducible exact Pk.h | with_reducible apply Pk.t)); exact rfl)))
          · exact ⟨_, rfl, rfl⟩
          · exact (by repeat (first | apply Sx.nil | apply Pk.h | apply Sx.cons | apply Pk.t))
      · have h2 : ¬ height rr < height rl := of_decide_eq_false hb2
        have he : even k v l (.node rk rv rh rl rr) = turnL k v l (.node rk rv rh rl rr) := by
          unfold even evenL; rw [if_neg h1, if_pos h4]; simp only [h2, if_false]
        rw [he]
        clear he hb2 hlr hok
        (repeat (first | ((with_reducible apply t_run); exact rfl) | ((with_reducible apply t_p); exact rfl; exact rfl) | ((with_reducible apply t_gr); exact rfl) | ((with_reducible apply t_ge); exact rfl) | ((with_reducible apply t_ld); exact rfl; exact rfl; (repeat (first | with_reducible exact Pk.h | with_reducible apply Pk.t)); exact rfl) | ((with_reducible apply t_st); exact rfl; exact rfl; exact rfl; (repeat (first | with_reducible exact Pk.h | with_reducible apply Pk.t)); exact rfl; exact rfl; exact Nat.le_of_ble_eq_true rfl; exact rfl; (repeat (first | apply rk_nil | (apply rk_skip; exact rfl) | (apply rk_ld; exact rfl; (repeat (first | with_reducible exact Pk.h | with_reducible apply Pk.t)); exact rfl)))) | ((with_reducible apply t_nx F68.k); exact rfl; exact rfl) | with_reducible apply m_seq | (with_reducible apply m_reg mix) | with_reducible apply m_block | ((with_reducible apply m_ct); exact rfl) | ((with_reducible apply m_cf); exact rfl) | ((with_reducible apply m_skn); exact rfl) | ((with_reducible apply m_exn); exact rfl)))
        refine en_node (b := c) (l := rl) (r := rr) (by repeat (first | apply Sx.nil | apply Pk.h | apply Sx.cons | apply Pk.t)) ?_
        refine en_node (b := b) (l := l) (by repeat (first | apply Sx.nil | apply Pk.h | apply Sx.cons | apply Pk.t)) ?_
        refine t_cl rfl rfl (turnL_spec (some ⟨b, 0, none⟩) k v _ rh rk rv l rl rr) (by repeat (first | apply Sx.nil | apply Pk.h | apply Sx.cons | apply Pk.t)) ?_
        rintro _ _ ⟨a2, rfl, rfl⟩
        refine ⟨?_, ?_⟩ <;> (try dsimp only [List.cons_append, List.nil_append])
        · (repeat (first | apply rk_nil | (apply rk_skip; exact rfl) | (apply rk_ld; exact rfl; (repeat (first | with_reducible exact Pk.h | with_reducible apply Pk.t)); exact rfl)))
        (repeat (first | ((with_reducible apply t_run); exact rfl) | ((with_reducible apply t_p); exact rfl; exact rfl) | ((with_reducible apply t_gr); exact rfl) | ((with_reducible apply t_ge); exact rfl) | ((with_reducible apply t_ld); exact rfl; exact rfl; (repeat (first | with_reducible exact Pk.h | with_reducible apply Pk.t)); exact rfl) | ((with_reducible apply t_st); exact rfl; exact rfl; exact rfl; (repeat (first | with_reducible exact Pk.h | with_reducible apply Pk.t)); exact rfl; exact rfl; exact Nat.le_of_ble_eq_true rfl; exact rfl; (repeat (first | apply rk_nil | (apply rk_skip; exact rfl) | (apply rk_ld; exact rfl; (repeat (first | with_reducible exact Pk.h | with_reducible apply Pk.t)); exact rfl)))) | ((with_reducible apply t_nx F68.k); exact rfl; exact rfl) | with_reducible apply m_seq | (with_reducible apply m_reg mix) | with_reducible apply m_block | ((with_reducible apply m_ct); exact rfl) | ((with_reducible apply m_cf); exact rfl) | ((with_reducible apply m_skn); exact rfl) | ((with_reducible apply m_exn); exact rfl)))
        apply m_ret
        · rfl
        · (repeat (first | apply rs_nil | (apply rs_tmp; exact rfl) | (apply rs_cell; exact rfl; (repeat (first | with_reducible exact Pk.h | with_reducible apply Pk.t)); exact rfl)))
        · exact ⟨_, rfl, rfl⟩
        · exact (by repeat (first | apply Sx.nil | apply Pk.h | apply Sx.cons | apply Pk.t))
    · have h4 : ¬ df l r < -1 := of_decide_eq_false hb
      clear hb
      have he : even k v l r = mk k v l r := by unfold even; rw [if_neg h1, if_neg h4]
      rw [he]
      clear he hok
      (repeat (first | ((with_reducible apply t_run); exact rfl) | ((with_reducible apply t_p); exact rfl; exact rfl) | ((with_reducible apply t_gr); exact rfl) | ((with_reducible apply t_ge); exact rfl) | ((with_reducible apply t_ld); exact rfl; exact rfl; (repeat (first | with_reducible exact Pk.h | with_reducible apply Pk.t)); exact rfl) | ((with_reducible apply t_st); exact rfl; exact rfl; exact rfl; (repeat (first | with_reducible exact Pk.h | with_reducible apply Pk.t)); exact rfl; exact rfl; exact Nat.le_of_ble_eq_true rfl; exact rfl; (repeat (first | apply rk_nil | (apply rk_skip; exact rfl) | (apply rk_ld; exact rfl; (repeat (first | with_reducible exact Pk.h | with_reducible apply Pk.t)); exact rfl)))) | ((with_reducible apply t_nx F68.k); exact rfl; exact rfl) | with_reducible apply m_seq | (with_reducible apply m_reg mix) | with_reducible apply m_block | ((with_reducible apply m_ct); exact rfl) | ((with_reducible apply m_cf); exact rfl) | ((with_reducible apply m_skn); exact rfl) | ((with_reducible apply m_exn); exact rfl)))
      refine en_node (b := b) (l := l) (r := r) (by repeat (first | apply Sx.nil | apply Pk.h | apply Sx.cons | apply Pk.t)) ?_
      apply m_ret
      · rfl
      · (repeat (first | apply rs_nil | (apply rs_tmp; exact rfl) | (apply rs_cell; exact rfl; (repeat (first | with_reducible exact Pk.h | with_reducible apply Pk.t)); exact rfl)))
      · exact ⟨_, rfl, rfl⟩
      · exact (by repeat (first | apply Sx.nil | apply Pk.h | apply Sx.cons | apply Pk.t))
end Go.Proofs.Ythcbefkgfhokoaa

/- The tree, plainly: heights, what it holds, in order. -/
namespace Go.Proofs.Ythcbefkgfhokoaa
open Go Go.Dv

/-! ### the order of strings -/
theorem bl_irr : ∀ x : List UInt8, Op.bytesLess x x = false
  | [] => rfl
  | a :: x => by simp [Op.bytesLess, bl_irr x]
theorem bl_trans : ∀ x y z : List UInt8, Op.bytesLess x y = true → Op.bytesLess y z = true → Op.bytesLess x z = true
  | _, [], [], h, _ => by simp [Op.bytesLess] at h
  | _, _ :: _, [], _, h => by simp [Op.bytesLess] at h
  | [], [], _ :: _, h, _ => by simp [Op.bytesLess] at h
  | [], _ :: _, _ :: _, _, _ => rfl
  | a :: x, [], c :: z, h, _ => by simp [Op.bytesLess] at h
  | a :: x, b :: y, c :: z, h1, h2 => by
    simp only [Op.bytesLess, Bool.or_eq_true, Bool.and_eq_true, beq_iff_eq, decide_eq_true_eq] at *
    rcases h1 with h1 | ⟨rfl, h1⟩ <;> rcases h2 with h2 | ⟨rfl, h2⟩
    · exact .inl (UInt8.lt_trans h1 h2)
    · exact .inl h1
    · exact .inl h2
    · exact .inr ⟨rfl, bl_trans x y z h1 h2⟩
theorem slt_irr (x : ByteArray) : slt x x = false := bl_irr _
theorem slt_trans {x y z : ByteArray} (h1 : slt x y = true) (h2 : slt y z = true) : slt x z = true := bl_trans _ _ _ h1 h2
theorem slt_tri (x y : ByteArray) : slt x y = true ∨ x = y ∨ slt y x = true := by
  have := slt_gtr x y
  rw [str_eq] at this
  by_cases h1 : slt x y = true
  · exact .inl h1
  · by_cases h2 : x = y
    · exact .inr (.inl h2)
    · refine .inr (.inr ?_)
      rw [← this]
      have h1' : Op.bytesLess x.toList y.toList = false := by simpa [slt] using h1
      simp [h1', h2]
theorem slt_asymm {x y : ByteArray} (h : slt x y = true) : slt y x = false := by
  cases h2 : slt y x with
  | false => rfl
  | true => have := slt_trans h h2; rw [slt_irr] at this; cases this
theorem slt_ne {x y : ByteArray} (h : slt x y = true) : x ≠ y := by rintro rfl; rw [slt_irr] at h; cases h

/-! ### heights -/
def sz : Tr Ow → Nat
  | .nil => 0
  | .node _ _ _ l r => sz l + sz r + 1
def Hk : Tr Ow → Prop
  | .nil => True
  | .node _ _ hi l r => hi = 1 + max (height l) (height r) ∧ Hk l ∧ Hk r
def toL : Tr Ow → List (ByteArray × Ow)
  | .nil => []
  | .node k v _ l r => toL l ++ (k, v) :: toL r

theorem hnil : height .nil = 0 := rfl
theorem hnode (k : ByteArray) (v : Ow) (hi : Int) (l r : Tr Ow) : height (.node k v hi l r) = hi := rfl
theorem hk_bd : ∀ {t : Tr Ow}, Hk t → 0 ≤ height t ∧ height t ≤ sz t
  | .nil, _ => by simp [hnil, sz]
  | .node k v hi l r, h => by
    obtain ⟨rfl, hl, hr⟩ := h
    have := hk_bd hl; have := hk_bd hr
    simp only [hnode, sz]; omega
theorem mh_eq {a b : Int} (ha : 0 ≤ a) (hb : 0 ≤ b) (ha' : a < 2199023255552) (hb' : b < 2199023255552) : mh a b = 1 + max a b := by
  have h1 : (if b > a then b else a) = max a b := by
    by_cases h : b > a
    · rw [if_pos h]; omega
    · rw [if_neg h]; omega
  unfold mh
  rw [h1]
  simp only [IntKind.wrap, IntKind.bits, IntKind.signed]
  simp
  omega
theorem df_eq {l r : Tr Ow} (hl : Hk l) (hr : Hk r) (hs : sz l + sz r < 1099511627776) : df l r = height l - height r := by
  have := hk_bd hl; have := hk_bd hr
  unfold df
  simp only [IntKind.wrap, IntKind.bits, IntKind.signed]
  simp
  omega
theorem evOk_of {l r : Tr Ow} (hl : Hk l) (hr : Hk r) (hs : sz l + sz r < 1099511627776) : evOk l r := by
  have h1 := hk_bd hl; have h2 := hk_bd hr
  rw [evOk, df_eq hl hr hs]
  constructor
  · intro h
    cases l with
    | nil => rw [hnil] at h; omega
    | node lk lv lh ll lr =>
      refine ⟨lk, lv, lh, ll, lr, rfl, fun h3 => ?_⟩
      have := hk_bd hl.2.1
      cases lr with
      | nil => rw [hnil] at h3; omega
      | node => rfl
  · intro h
    cases r with
    | nil => rw [hnil] at h; omega
    | node lk lv lh ll lr =>
      refine ⟨lk, lv, lh, ll, lr, rfl, fun h3 => ?_⟩
      have := hk_bd hr.2.2
      cases ll with
      | nil => rw [hnil] at h3; omega
      | node => rfl
theorem hk_mk {k : ByteArray} {v : Ow} {l r : Tr Ow} (hl : Hk l) (hr : Hk r) (hs : sz l + sz r < 2199023255552) : Hk (mk k v l r) := by
  have h1 := hk_bd hl; have h2 := hk_bd hr
  exact ⟨mh_eq (by omega) (by omega) (by omega) (by omega), hl, hr⟩
/-- what turns about keep -/
structure Same (t : Tr Ow) (k : ByteArray) (v : Ow) (l r : Tr Ow) : Prop where
  hk : Hk t
  sz : sz t = sz l + sz r + 1
  toL : toL t = toL l ++ (k, v) :: toL r
  nn : isN t = true
theorem mk_same {k : ByteArray} {v : Ow} {l r : Tr Ow} (hl : Hk l) (hr : Hk r) (hs : sz l + sz r < 2199023255552) : Same (mk k v l r) k v l r := ⟨hk_mk hl hr hs, rfl, rfl, rfl⟩
theorem turnR_same {k : ByteArray} {v : Ow} {l r : Tr Ow} (hl : Hk l) (hr : Hk r) (hs : sz l + sz r < 2199023255552) : Same (turnR k v l r) k v l r := by
  cases l with
  | nil => exact mk_same hl hr hs
  | node lk lv lh ll lr =>
    simp only [sz] at hs
    have h1 := mk_same (k := k) (v := v) hl.2.2 hr (by omega)
    have h2 := mk_same (k := lk) (v := lv) hl.2.1 h1.hk (by have := h1.sz; omega)
    refine ⟨h2.hk, ?_, ?_, rfl⟩
    · have := h2.sz; have := h1.sz; simp only [turnR, sz] at *; omega
    · simp only [turnR]; rw [h2.toL, h1.toL]; simp [toL]
theorem turnL_same {k : ByteArray} {v : Ow} {l r : Tr Ow} (hl : Hk l) (hr : Hk r) (hs : sz l + sz r < 2199023255552) : Same (turnL k v l r) k v l r := by
  cases r with
  | nil => exact mk_same hl hr hs
  | node lk lv lh ll lr =>
    simp only [sz] at hs
    have h1 := mk_same (k := k) (v := v) hl hr.2.1 (by omega)
    have h2 := mk_same (k := lk) (v := lv) h1.hk hr.2.2 (by have := h1.sz; omega)
    refine ⟨h2.hk, ?_, ?_, rfl⟩
    · have := h2.sz; have := h1.sz; simp only [turnL, sz] at *; omega
    · simp only [turnL]; rw [h2.toL, h1.toL]; simp [toL]
theorem even_same {k : ByteArray} {v : Ow} {l r : Tr Ow} (hl : Hk l) (hr : Hk r) (hs : sz l + sz r < 1099511627776) : Same (even k v l r) k v l r := by
  unfold even
  split
  · unfold evenR
    cases l with
    | nil => exact mk_same hl hr (by omega)
    | node lk lv lh ll lr =>
      simp only
      simp only [sz] at hs
      split
      · have h1 := turnL_same (k := lk) (v := lv) hl.2.1 hl.2.2 (by omega)
        have h2 := turnR_same (k := k) (v := v) h1.hk hr (by have := h1.sz; omega)
        refine ⟨h2.hk, ?_, ?_, h2.nn⟩
        · have := h2.sz; have := h1.sz; simp only [sz] at *; omega
        · rw [h2.toL, h1.toL]; simp [toL]
      · exact turnR_same hl hr (by simp only [sz]; omega)
  · split
    · unfold evenL
      cases r with
      | nil => exact mk_same hl hr (by omega)
      | node lk lv lh ll lr =>
        simp only
        simp only [sz] at hs
        split
        · have h1 := turnR_same (k := lk) (v := lv) hr.2.1 hr.2.2 (by omega)
          have h2 := turnL_same (k := k) (v := v) hl h1.hk (by have := h1.sz; omega)
          refine ⟨h2.hk, ?_, ?_, h2.nn⟩
          · have := h2.sz; have := h1.sz; simp only [sz] at *; omega
          · rw [h2.toL, h1.toL]; simp [toL]
        · exact turnL_same hl hr (by simp only [sz]; omega)
    · exact mk_same hl hr (by omega)

/-! ### in order -/
abbrev KL := List (ByteArray × Ow)
def Srt (l : KL) : Prop := l.Pairwise fun x y => slt x.1 y.1 = true
def insK (l : KL) (k : ByteArray) (v : Ow) : KL := match l with
  | [] => [(k, v)]
  | x :: l => if slt k x.1 then (k, v) :: x :: l else if slt x.1 k then x :: insK l k v else (x.1, v) :: l
def getK (l : KL) (k : ByteArray) : Option Ow := (l.find? fun x => x.1 = k).map (·.2)
def cutK (l : KL) (k : ByteArray) : KL := l.filter fun x => x.1 ≠ k

def ins (key : ByteArray) (v : Ow) : Tr Ow → Tr Ow
  | .nil => .node key v 1 .nil .nil
  | .node k v0 hi l r => if slt key k then even k v0 (ins key v l) r else if slt k key then even k v0 l (ins key v r) else .node k v hi l r
theorem insK_left {l r : KL} {x : ByteArray × Ow} {k : ByteArray} {v : Ow} (h : slt k x.1 = true) : insK (l ++ x :: r) k v = insK l k v ++ x :: r := by
  induction l with
  | nil => simp [insK, h]
  | cons y l ih =>
    simp only [List.cons_append, insK]
    split
    · rfl
    · split
      · rw [ih]; rfl
      · rfl
theorem insK_right {l r : KL} {x : ByteArray × Ow} {k : ByteArray} {v : Ow} (h : slt x.1 k = true) (hs : ∀ y ∈ l, slt y.1 x.1 = true) : insK (l ++ x :: r) k v = l ++ x :: insK r k v := by
  induction l with
  | nil => simp [insK, h, slt_asymm h]
  | cons y l ih =>
    have hy := slt_trans (hs y (by simp)) h
    simp only [List.cons_append, insK, slt_asymm hy, hy, if_true, Bool.false_eq_true, if_false]
    rw [ih fun z hz => hs z (by simp [hz])]
theorem insK_mid {l r : KL} {k : ByteArray} {v0 v : Ow} (hs : ∀ y ∈ l, slt y.1 k = true) : insK (l ++ (k, v0) :: r) k v = l ++ (k, v) :: r := by
  induction l with
  | nil => simp [insK, slt_irr]
  | cons y l ih =>
    have hy := hs y (by simp)
    simp only [List.cons_append, insK, slt_asymm hy, hy, if_true, Bool.false_eq_true, if_false]
    rw [ih fun z hz => hs z (by simp [hz])]
theorem insK_len (l : KL) (k : ByteArray) (v : Ow) : (insK l k v).length ≤ l.length + 1 := by
  induction l with
  | nil => simp [insK]
  | cons x l ih => simp only [insK]; split <;> (try split) <;> simp <;> omega
theorem sz_len : ∀ t : Tr Ow, sz t = (toL t).length
  | .nil => rfl
  | .node k v hi l r => by simp [sz, toL, sz_len l, sz_len r]; omega
theorem ins_ok (key : ByteArray) (v : Ow) : ∀ t : Tr Ow, Hk t → sz t < 549755813888 → Srt (toL t) → Hk (ins key v t) ∧ toL (ins key v t) = insK (toL t) key v ∧ sz (ins key v t) ≤ sz t + 1 ∧ isN (ins key v t) = true
  | .nil, _, _, _ => ⟨⟨by simp [height], trivial, trivial⟩, rfl, by simp [ins, sz], rfl⟩
  | .node k v0 hi l r, h, hs, hsrt => by
    simp only [sz] at hs
    obtain ⟨hhi, hl, hr⟩ := h
    simp only [toL, Srt] at hsrt
    have hsl : Srt (toL l) := (List.pairwise_append.1 hsrt).1
    have hsr : Srt (toL r) := (List.pairwise_cons.1 (List.pairwise_append.1 hsrt).2.1).2
    have hlx : ∀ y ∈ toL l, slt y.1 k = true := fun y hy => (List.pairwise_append.1 hsrt).2.2 y hy (k, v0) (by simp)
    simp only [ins]
    split
    · rename_i hlt
      obtain ⟨h1, h2, h3, _⟩ := ins_ok key v l hl (by omega) hsl
      have hev := even_same (k := k) (v := v0) h1 hr (by omega)
      exact ⟨hev.hk, by rw [hev.toL, h2, toL, insK_left hlt], by rw [hev.sz]; simp only [sz]; omega, hev.nn⟩
    · rename_i hlt
      split
      · rename_i hgt
        obtain ⟨h1, h2, h3, _⟩ := ins_ok key v r hr (by omega) hsr
        have hev := even_same (k := k) (v := v0) hl h1 (by omega)
        exact ⟨hev.hk, by rw [hev.toL, h2, toL, insK_right hgt hlx], by rw [hev.sz]; simp only [sz]; omega, hev.nn⟩
      · rename_i hgt
        have hkk : key = k := by
          rcases slt_tri key k with h | h | h
          · exact absurd h hlt
          · exact h
          · exact absurd h hgt
        subst hkk
        refine ⟨⟨hhi, hl, hr⟩, ?_, by simp [sz], rfl⟩
        simp only [toL]
        exact (insK_mid hlx).symm
end Go.Proofs.Ythcbefkgfhokoaa

/- The tree is written. -/
namespace Go.Proofs.Ythcbefkgfhokoaa
open Go Go.Dv
set_option maxRecDepth 100000
attribute [local irreducible] HTh HM En Fsp TrA Cl

def owV (v : Ow) : Value := .agg #[.int .u32 v.c, .int .u32 v.n, .string v.key, .string v.val, .bool v.dead]
def addN (key : ByteArray) : Tr Ow → Int → Int
  | .nil, n => IntKind.i64.wrap (n + 1)
  | .node k _ _ l r, n => if slt key k then addN key l n else if slt k key then addN key r n else n

set_option maxHeartbeats 1000000 in
theorem set_spec (m : Nat) (key : ByteArray) (v : Ow) (rt : Option Addr) : ∀ (t : Tr Ow) (a : Option Addr) (n : Int), Hk t → sz t < 549755813888 → Srt (toL t) →
    Fsp Try.prog 51 [.pointer (some ⟨m, 0, none⟩), .pointer a, .string key, owV v] [Cl m 90 [.pointer rt, .int .i64 n], TrA a t]
      fun u aa' => ∃ a', u = .pointer a' ∧ aa' = [Cl m 90 [.pointer rt, .int .i64 (addN key t n)], TrA a' (ins key v t)] := by
  intro t
  induction t with
  | nil =>
    intro a n _ _ _
    refine spec_of F51.ok rfl fun gl X => ?_
    dsimp only [List.cons_append, List.nil_append]
    refine en_nil (by repeat (first | with_reducible exact Pk.h | with_reducible apply Pk.t)) ?_
    rintro rfl
    (repeat (first | ((with_reducible apply t_run); exact rfl) | ((with_reducible apply t_p); exact rfl; exact rfl) | ((with_reducible apply t_gr); exact rfl) | ((with_reducible apply t_ge); exact rfl) | ((with_reducible apply t_ld); exact rfl; exact rfl; (repeat (first | with_reducible exact Pk.h | with_reducible apply Pk.t)); exact rfl) | ((with_reducible apply t_st); exact rfl; exact rfl; exact rfl; (repeat (first | with_reducible exact Pk.h | with_reducible apply Pk.t)); exact rfl; exact rfl; exact Nat.le_of_ble_eq_true rfl; exact rfl; (repeat (first | apply rk_nil | (apply rk_skip; exact rfl) | (apply rk_ld; exact rfl; (repeat (first | with_reducible exact Pk.h | with_reducible apply Pk.t)); exact rfl)))) | ((with_reducible apply t_nx F51.k); exact rfl; exact rfl) | with_reducible apply m_seq | (with_reducible apply m_reg mix) | with_reducible apply m_block | ((with_reducible apply m_ct); exact rfl) | ((with_reducible apply m_cf); exact rfl) | ((with_reducible apply m_skn); exact rfl) | ((with_reducible apply m_exn); exact rfl)))
    refine t_bx rfl rfl rfl fun bv => ⟨(by (repeat (first | apply rk_nil | (apply rk_skip; exact rfl) | (apply rk_ld; exact rfl; (repeat (first | with_reducible exact Pk.h | with_reducible apply Pk.t)); exact rfl)))), ?_⟩
    try dsimp only [List.cons_append, List.nil_append]
    (repeat (first | ((with_reducible apply t_run); exact rfl) | ((with_reducible apply t_p); exact rfl; exact rfl) | ((with_reducible apply t_gr); exact rfl) | ((with_reducible apply t_ge); exact rfl) | ((with_reducible apply t_ld); exact rfl; exact rfl; (repeat (first | with_reducible exact Pk.h | with_reducible apply Pk.t)); exact rfl) | ((with_reducible apply t_st); exact rfl; exact rfl; exact rfl; (repeat (first | with_reducible exact Pk.h | with_reducible apply Pk.t)); exact rfl; exact rfl; exact Nat.le_of_ble_eq_true rfl; exact rfl; (repeat (first | apply rk_nil | (apply rk_skip; exact rfl) | (apply rk_ld; exact rfl; (repeat (first | with_reducible exact Pk.h | with_reducible apply Pk.t)); exact rfl)))) | ((with_reducible apply t_nx F51.k); exact rfl; exact rfl) | with_reducible apply m_seq | (with_reducible apply m_reg mix) | with_reducible apply m_block | ((with_reducible apply m_ct); exact rfl) | ((with_reducible apply m_cf); exact rfl) | ((with_reducible apply m_skn); exact rfl) | ((with_reducible apply m_exn); exact rfl)))
    refine t_bx rfl rfl rfl fun bn => ⟨(by (repeat (first | apply rk_nil | (apply rk_skip; exact rfl) | (apply rk_ld; exact rfl; (repeat (first | with_reducible exact Pk.h | with_reducible apply Pk.t)); exact rfl)))), ?_⟩
    try dsimp only [List.cons_append, List.nil_append]
    (repeat (first | ((with_reducible apply t_run); exact rfl) | ((with_reducible apply t_p); exact rfl; exact rfl) | ((with_reducible apply t_gr); exact rfl) | ((with_reducible apply t_ge); exact rfl) | ((with_reducible apply t_ld); exact rfl; exact rfl; (repeat (first | with_reducible exact Pk.h | with_reducible apply Pk.t)); exact rfl) | ((with_reducible apply t_st); exact rfl; exact rfl; exact rfl; (repeat (first | with_reducible exact Pk.h | with_reducible apply Pk.t)); exact rfl; exact rfl; exact Nat.le_of_ble_eq_true rfl; exact rfl; (repeat (first | apply rk_nil | (apply rk_skip; exact rfl) | (apply rk_ld; exact rfl; (repeat (first | with_reducible exact Pk.h | with_reducible apply Pk.t)); exact rfl)))) | ((with_reducible apply t_nx F51.k); exact rfl; exact rfl) | with_reducible apply m_seq | (with_reducible apply m_reg mix) | with_reducible apply m_block | ((with_reducible apply m_ct); exact rfl) | ((with_reducible apply m_cf); exact rfl) | ((with_reducible apply m_skn); exact rfl) | ((with_reducible apply m_exn); exact rfl)))
    refine en_nl (en_nl ?_)
    refine en_node (b := bn) (k := key) (v := v) (hi := 1) (l := .nil) (r := .nil) (by repeat (first | apply Sx.nil | apply Pk.h | apply Sx.cons | apply Pk.t)) ?_
    apply m_ret
    · rfl
    · (repeat (first | apply rs_nil | (apply rs_tmp; exact rfl) | (apply rs_cell; exact rfl; (repeat (first | with_reducible exact Pk.h | with_reducible apply Pk.t)); exact rfl)))
    · exact ⟨_, rfl, rfl⟩
    · exact (by repeat (first | apply Sx.nil | apply Pk.h | apply Sx.cons | apply Pk.t))
  | node k v0 hi l r ihl ihr =>
    intro a n hk hs hsrt
    simp only [sz] at hs
    have hsl : Srt (toL l) := (List.pairwise_append.1 hsrt).1
    have hsr : Srt (toL r) := (List.pairwise_cons.1 (List.pairwise_append.1 hsrt).2.1).2
    refine spec_of F51.ok rfl fun gl X => ?_
    dsimp only [List.cons_append, List.nil_append]
    refine en_tree (by repeat (first | with_reducible exact Pk.h | with_reducible apply Pk.t)) ?_
    rintro b al ar rfl
    (repeat (first | ((with_reducible apply t_run); exact rfl) | ((with_reducible apply t_p); exact rfl; exact rfl) | ((with_reducible apply t_gr); exact rfl) | ((with_reducible apply t_ge); exact rfl) | ((with_reducible apply t_ld); exact rfl; exact rfl; (repeat (first | with_reducible exact Pk.h | with_reducible apply Pk.t)); exact rfl) | ((with_reducible apply t_st); exact rfl; exact rfl; exact rfl; (repeat (first | with_reducible exact Pk.h | with_reducible apply Pk.t)); exact rfl; exact rfl; exact Nat.le_of_ble_eq_true rfl; exact rfl; (repeat (first | apply rk_nil | (apply rk_skip; exact rfl) | (apply rk_ld; exact rfl; (repeat (first | with_reducible exact Pk.h | with_reducible apply Pk.t)); exact rfl)))) | ((with_reducible apply t_nx F51.k); exact rfl; exact rfl) | with_reducible apply m_seq | (with_reducible apply m_reg mix) | with_reducible apply m_block | ((with_reducible apply m_ct); exact rfl) | ((with_reducible apply m_cf); exact rfl) | ((with_reducible apply m_skn); exact rfl) | ((with_reducible apply m_exn); exact rfl)))
    refine t_bx rfl rfl rfl fun bv => ⟨(by (repeat (first | apply rk_nil | (apply rk_skip; exact rfl) | (apply rk_ld; exact rfl; (repeat (first | with_reducible exact Pk.h | with_reducible apply Pk.t)); exact rfl)))), ?_⟩
    try dsimp only [List.cons_append, List.nil_append]
    (repeat (first | ((with_reducible apply t_run); exact rfl) | ((with_reducible apply t_p); exact rfl; exact rfl) | ((with_reducible apply t_gr); exact rfl) | ((with_reducible apply t_ge); exact rfl) | ((with_reducible apply t_ld); exact rfl; exact rfl; (repeat (first | with_reducible exact Pk.h | with_reducible apply Pk.t)); exact rfl) | ((with_reducible apply t_st); exact rfl; exact rfl; exact rfl; (repeat (first | with_reducible exact Pk.h | with_reducible apply Pk.t)); exact rfl; exact rfl; exact Nat.le_of_ble_eq_true rfl; exact rfl; (repeat (first | apply rk_nil | (apply rk_skip; exact rfl) | (apply rk_ld; exact rfl; (repeat (first | with_reducible exact Pk.h | with_reducible apply Pk.t)); exact rfl)))) | ((with_reducible apply t_nx F51.k); exact rfl; exact rfl) | with_reducible apply m_seq | (with_reducible apply m_reg mix) | with_reducible apply m_block | ((with_reducible apply m_ct); exact rfl) | ((with_reducible apply m_cf); exact rfl) | ((with_reducible apply m_skn); exact rfl) | ((with_reducible apply m_exn); exact rfl)))
    refine m_cond rfl (fun hb => ?_) (fun hb => ?_)
    · have e1 : ins key v (.node k v0 hi l r) = even k v0 (ins key v l) r := by simp only [ins]; rw [if_pos hb]
      have e2 : addN key (.node k v0 hi l r) n = addN key l n := by simp only [addN]; rw [if_pos hb]
      have hi1 := ins_ok key v l hk.2.1 (by omega) hsl
      have hev := evOk_of hi1.1 hk.2.2 (by omega)
      rw [e1, e2]
      clear e1 e2 hi1
      (repeat (first | ((with_reducible apply t_run); exact rfl) | ((with_reducible apply t_p); exact rfl; exact rfl) | ((with_reducible apply t_gr); exact rfl) | ((with_reducible apply t_ge); exact rfl) | ((with_reducible apply t_ld); exact rfl; exact rfl; (repeat (first | with_reducible exact Pk.h | with_reducible apply Pk.t)); exact rfl) | ((with_reducible apply t_st); exact rfl; exact rfl; exact rfl; (repeat (first | with_reducible exact Pk.h | with_reducible apply Pk.t)); exact rfl; exact rfl; exact Nat.le_of_ble_eq_true rfl; exact rfl; (repeat (first | apply rk_nil | (apply rk_skip; exact rfl) | (apply rk_ld; exact rfl; (repeat (first | with_reducible exact Pk.h | with_reducible apply Pk.t)); exact rfl)))) | ((with_reducible apply t_nx F51.k); exact rfl; exact rfl) | with_reducible apply m_seq | (with_reducible apply m_reg mix) | with_reducible apply m_block | ((with_reducible apply m_ct); exact rfl) | ((with_reducible apply m_cf); exact rfl) | ((with_reducible apply m_skn); exact rfl) | ((with_reducible apply m_exn); exact rfl)))
      refine t_cl rfl rfl (ihl al n hk.2.1 (by omega) hsl) (by repeat (first | apply Sx.nil | apply Pk.h | apply Sx.cons | apply Pk.t)) ?_
      rintro _ _ ⟨a', rfl, rfl⟩
      refine ⟨?_, ?_⟩ <;> (try dsimp only [List.cons_append, List.nil_append])
      · (repeat (first | apply rk_nil | (apply rk_skip; exact rfl) | (apply rk_ld; exact rfl; (repeat (first | with_reducible exact Pk.h | with_reducible apply Pk.t)); exact rfl)))
      (repeat (first | ((with_reducible apply t_run); exact rfl) | ((with_reducible apply t_p); exact rfl; exact rfl) | ((with_reducible apply t_gr); exact rfl) | ((with_reducible apply t_ge); exact rfl) | ((with_reducible apply t_ld); exact rfl; exact rfl; (repeat (first | with_reducible exact Pk.h | with_reducible apply Pk.t)); exact rfl) | ((with_reducible apply t_st); exact rfl; exact rfl; exact rfl; (repeat (first | with_reducible exact Pk.h | with_reducible apply Pk.t)); exact rfl; exact rfl; exact Nat.le_of_ble_eq_true rfl; exact rfl; (repeat (first | apply rk_nil | (apply rk_skip; exact rfl) | (apply rk_ld; exact rfl; (repeat (first | with_reducible exact Pk.h | with_reducible apply Pk.t)); exact rfl)))) | ((with_reducible apply t_nx F51.k); exact rfl; exact rfl) | with_reducible apply m_seq | (with_reducible apply m_reg mix) | with_reducible apply m_block | ((with_reducible apply m_ct); exact rfl) | ((with_reducible apply m_cf); exact rfl) | ((with_reducible apply m_skn); exact rfl) | ((with_reducible apply m_exn); exact rfl)))
      refine en_node (b := b) (l := ins key v l) (r := r) (by repeat (first | apply Sx.nil | apply Pk.h | apply Sx.cons | apply Pk.t)) ?_
      refine t_cl rfl rfl (even_spec (some ⟨b, 0, none⟩) k v0 _ _ _ hev) (by repeat (first | apply Sx.nil | apply Pk.h | apply Sx.cons | apply Pk.t)) ?_
      rintro _ _ ⟨a2, rfl, rfl⟩
      refine ⟨?_, ?_⟩ <;> (try dsimp only [List.cons_append, List.nil_append])
      · (repeat (first | apply rk_nil | (apply rk_skip; exact rfl) | (apply rk_ld; exact rfl; (repeat (first | with_reducible exact Pk.h | with_reducible apply Pk.t)); exact rfl)))
      (repeat (first | ((with_reducible apply t_run); exact rfl) | ((with_reducible apply t_p); exact rfl; exact rfl) | ((with_reducible apply t_gr); exact rfl) | ((with_reducible apply t_ge); exact rfl) | ((with_reducible apply t_ld); exact rfl; exact rfl; (repeat (first | with_reducible exact Pk.h | with_reducible apply Pk.t)); exact rfl) | ((with_reducible apply t_st); exact rfl; exact rfl; exact rfl; (repeat (first | with_reducible exact Pk.h | with_reducible apply Pk.t)); exact rfl; exact rfl; exact Nat.le_of_ble_eq_true rfl; exact rfl; (repeat (first | apply rk_nil | (apply rk_skip; exact rfl) | (apply rk_ld; exact rfl; (repeat (first | with_reducible exact Pk.h | with_reducible apply Pk.t)); exact rfl)))) | ((with_reducible apply t_nx F51.k); exact rfl; exact rfl) | with_reducible apply m_seq | (with_reducible apply m_reg mix) | with_reducible apply m_block | ((with_reducible apply m_ct); exact rfl) | ((with_reducible apply m_cf); exact rfl) | ((with_reducible apply m_skn); exact rfl) | ((with_reducible apply m_exn); exact rfl)))
      apply m_ret
      · rfl
      · (repeat (first | apply rs_nil | (apply rs_tmp; exact rfl) | (apply rs_cell; exact rfl; (repeat (first | with_reducible exact Pk.h | with_reducible apply Pk.t)); exact rfl)))
      · exact ⟨_, rfl, rfl⟩
      · exact (by repeat (first | apply Sx.nil | apply Pk.h | apply Sx.cons | apply Pk.t))
    · (repeat (first | ((with_reducible apply t_run); exact rfl) | ((with_reducible apply t_p); exact rfl; exact rfl) | ((with_reducible apply t_gr); exact rfl) | ((with_reducible apply t_ge); exact rfl) | ((with_reducible apply t_ld); exact rfl; exact rfl; (repeat (first | with_reducible exact Pk.h | with_reducible apply Pk.t)); exact rfl) | ((with_reducible apply t_st); exact rfl; exact rfl; exact rfl; (repeat (first | with_reducible exact Pk.h | with_reducible apply Pk.t)); exact rfl; exact rfl; exact Nat.le_of_ble_eq_true rfl; exact rfl; (repeat (first | apply rk_nil | (apply rk_skip; exact rfl) | (apply rk_ld; exact rfl; (repeat (first | with_reducible exact Pk.h | with_reducible apply Pk.t)); exact rfl)))) | ((with_reducible apply t_nx F51.k); exact rfl; exact rfl) | with_reducible apply m_seq | (with_reducible apply m_reg mix) | with_reducible apply m_block | ((with_reducible apply m_ct); exact rfl) | ((with_reducible apply m_cf); exact rfl) | ((with_reducible apply m_skn); exact rfl) | ((with_reducible apply m_exn); exact rfl)))
      refine m_cond rfl (fun hb2 => ?_) (fun hb2 => ?_)
      · have e1 : ins key v (.node k v0 hi l r) = even k v0 l (ins key v r) := by simp only [ins]; rw [if_neg (by simp [hb]), if_pos hb2]
        have e2 : addN key (.node k v0 hi l r) n = addN key r n := by simp only [addN]; rw [if_neg (by simp [hb]), if_pos hb2]
        have hi1 := ins_ok key v r hk.2.2 (by omega) hsr
        have hev := evOk_of hk.2.1 hi1.1 (by omega)
        rw [e1, e2]
        clear e1 e2 hi1
        (repeat (first | ((with_reducible apply t_run); exact rfl) | ((with_reducible apply t_p); exact rfl; exact rfl) | ((with_reducible apply t_gr); exact rfl) | ((with_reducible apply t_ge); exact rfl) | ((with_reducible apply t_ld); exact rfl; exact rfl; (repeat (first | with_reducible exact Pk.h | with_reducible apply Pk.t)); exact rfl) | ((with_reducible apply t_st); exact rfl; exact rfl; exact rfl; (repeat (first | with_reducible exact Pk.h | with_reducible apply Pk.t)); exact rfl; exact rfl; exact Nat.le_of_ble_eq_true rfl; exact rfl; (repeat (first | apply rk_nil | (apply rk_skip; exact rfl) | (apply rk_ld; exact rfl; (repeat (first | with_reducible exact Pk.h | with_reducible apply Pk.t)); exact rfl)))) | ((with_reducible apply t_nx F51.k); exact rfl; exact rfl) | with_reducible apply m_seq | (with_reducible apply m_reg mix) | with_reducible apply m_block | ((with_reducible apply m_ct); exact rfl) | ((with_reducible apply m_cf); exact rfl) | ((with_reducible apply m_skn); exact rfl) | ((with_reducible apply m_exn); exact rfl)))
        refine t_cl rfl rfl (ihr ar n hk.2.2 (by omega) hsr) (by repeat (first | apply Sx.nil | apply Pk.h | apply Sx.cons | apply Pk.t)) ?_
        rintro _ _ ⟨a', rfl, rfl⟩
        refine ⟨?_, ?_⟩ <;> (try dsimp only [List.cons_append, List.nil_append])
        · (repeat (first | apply rk_nil | (apply rk_skip; exact rfl) | (apply rk_ld; exact rfl; (repeat (first | with_reducible exact Pk.h | with_reducible apply Pk.t)); exact rfl)))
        (repeat (first | ((with_reducible apply t_run); exact rfl) | ((with_reducible apply t_p); exact rfl; exact rfl) | ((with_reducible apply t_gr); exact rfl) | ((with_reducible apply t_ge); exact rfl) | ((with_reducible apply t_ld); exact rfl; exact rfl; (repeat (first | with_reducible exact Pk.h | with_reducible apply Pk.t)); exact rfl) | ((with_reducible apply t_st); exact rfl; exact rfl; exact rfl; (repeat (first | with_reducible exact Pk.h | with_reducible apply Pk.t)); exact rfl; exact rfl; exact Nat.le_of_ble_eq_true rfl; exact rfl; (repeat (first | apply rk_nil | (apply rk_skip; exact rfl) | (apply rk_ld; exact rfl; (repeat (first | with_reducible exact Pk.h | with_reducible apply Pk.t)); exact rfl)))) | ((with_reducible apply t_nx F51.k); exact rfl; exact rfl) | with_reducible apply m_seq | (with_reducible apply m_reg mix) | with_reducible apply m_block | ((with_reducible apply m_ct); exact rfl) | ((with_reducible apply m_cf); exact rfl) | ((with_reducible apply m_skn); exact rfl) | ((with_reducible apply m_exn); exact rfl)))
        refine en_node (b := b) (l := l) (r := ins key v r) (by repeat (first | apply Sx.nil | apply Pk.h | apply Sx.cons | apply Pk.t)) ?_
        refine t_cl rfl rfl (even_spec (some ⟨b, 0, none⟩) k v0 _ _ _ hev) (by repeat (first | apply Sx.nil | apply Pk.h | apply Sx.cons | apply Pk.t)) ?_
        rintro _ _ ⟨a2, rfl, rfl⟩
        refine ⟨?_, ?_⟩ <;> (try dsimp only [List.cons_append, List.nil_append])
        · (repeat (first | apply rk_nil | (apply rk_skip; exact rfl) | (apply rk_ld; exact rfl; (repeat (first | with_reducible exact Pk.h | with_reducible apply Pk.t)); exact rfl)))
        (repeat (first | ((with_reducible apply t_run); exact rfl) | ((with_reducible apply t_p); exact rfl; exact rfl) | ((with_reducible apply t_gr); exact rfl) | ((with_reducible apply t_ge); exact rfl) | ((with_reducible apply t_ld); exact rfl; exact rfl; (repeat (first | with_reducible exact Pk.h | with_reducible apply Pk.t)); exact rfl) | ((with_reducible apply t_st); exact rfl; exact rfl; exact rfl; (repeat (first | with_reducible exact Pk.h | with_reducible apply Pk.t)); exact rfl; exact rfl; exact Nat.le_of_ble_eq_true rfl; exact rfl; (repeat (first | apply rk_nil | (apply rk_skip; exact rfl) | (apply rk_ld; exact rfl; (repeat (first | with_reducible exact Pk.h | with_reducible apply Pk.t)); exact rfl)))) | ((with_reducible apply t_nx F51.k); exact rfl; exact rfl) | with_reducible apply m_seq | (with_reducible apply m_reg mix) | with_reducible apply m_block | ((with_reducible apply m_ct); exact rfl) | ((with_reducible apply m_cf); exact rfl) | ((with_reducible apply m_skn); exact rfl) | ((with_reducible apply m_exn); exact rfl)))
        apply m_ret
        · rfl
        · (repeat (first | apply rs_nil | (apply rs_tmp; exact rfl) | (apply rs_cell; exact rfl; (repeat (first | with_reducible exact Pk.h | with_reducible apply Pk.t)); exact rfl)))
        · exact ⟨_, rfl, rfl⟩
        · exact (by repeat (first | apply Sx.nil | apply Pk.h | apply Sx.cons | apply Pk.t))
      · have e1 : ins key v (.node k v0 hi l r) = .node k v hi l r := by simp only [ins]; rw [if_neg (by simp [hb]), if_neg (by simp [hb2])]
        have e2 : addN key (.node k v0 hi l r) n = n := by simp only [addN]; rw [if_neg (by simp [hb]), if_neg (by simp [hb2])]
        rw [e1, e2]
        clear e1 e2
        (repeat (first | ((with_reducible apply t_run); exact rfl) | ((with_reducible apply t_p); exact rfl; exact rfl) | ((with_reducible apply t_gr); exact rfl) | ((with_reducible apply t_ge); exact rfl) | ((with_reducible apply t_ld); exact rfl; exact rfl; (repeat (first | with_reducible exact Pk.h | with_reducible apply Pk.t)); exact rfl) | ((with_reducible apply t_st); exact rfl; exact rfl; exact rfl; (repeat (first | with_reducible exact Pk.h | with_reducible apply Pk.t)); exact rfl; exact rfl; exact Nat.le_of_ble_eq_true rfl; exact rfl; (repeat (first | apply rk_nil | (apply rk_skip; exact rfl) | (apply rk_ld; exact rfl; (repeat (first | with_reducible exact Pk.h | with_reducible apply Pk.t)); exact rfl)))) | ((with_reducible apply t_nx F51.k); exact rfl; exact rfl) | with_reducible apply m_seq | (with_reducible apply m_reg mix) | with_reducible apply m_block | ((with_reducible apply m_ct); exact rfl) | ((with_reducible apply m_cf); exact rfl) | ((with_reducible apply m_skn); exact rfl) | ((with_reducible apply m_exn); exact rfl)))
        refine en_node (b := b) (v := v) (l := l) (r := r) (by repeat (first | apply Sx.nil | apply Pk.h | apply Sx.cons | apply Pk.t)) ?_
        apply m_ret
        · rfl
        · (repeat (first | apply rs_nil | (apply rs_tmp; exact rfl) | (apply rs_cell; exact rfl; (repeat (first | with_reducible exact Pk.h | with_reducible apply Pk.t)); exact rfl)))
        · exact ⟨_, rfl, rfl⟩
        · exact (by repeat (first | apply Sx.nil | apply Pk.h | apply Sx.cons | apply Pk.t))
end Go.Proofs.Ythcbefkgfhokoaa

/- The map: set, get. -/
namespace Go.Proofs.Ythcbefkgfhokoaa
open Go Go.Dv
set_option maxRecDepth 100000

theorem addN_len (key : ByteArray) (v : Ow) : ∀ (t : Tr Ow), Srt (toL t) → ∀ n : Nat, n < 4611686018427387904 → (∃ d : Nat, (insK (toL t) key v).length = (toL t).length + d ∧ addN key t (n : Int) = ((n + d : Nat) : Int))
  | .nil, _, n, hn => ⟨1, by simp [toL, insK], by
      simp only [addN, IntKind.wrap, IntKind.bits, IntKind.signed]; simp; omega⟩
  | .node k v0 hi l r, hsrt, n, hn => by
    have hsl : Srt (toL l) := (List.pairwise_append.1 hsrt).1
    have hsr : Srt (toL r) := (List.pairwise_cons.1 (List.pairwise_append.1 hsrt).2.1).2
    have hlx : ∀ y ∈ toL l, slt y.1 k = true := fun y hy => (List.pairwise_append.1 hsrt).2.2 y hy (k, v0) (by simp)
    simp only [addN, toL]
    split
    · rename_i h
      obtain ⟨d, h1, h2⟩ := addN_len key v l hsl n hn
      exact ⟨d, by rw [insK_left h]; simp [h1]; omega, h2⟩
    · split
      · rename_i h
        obtain ⟨d, h1, h2⟩ := addN_len key v r hsr n hn
        exact ⟨d, by rw [insK_right h hlx]; simp [h1]; omega, h2⟩
      · rename_i h1 h2
        have hkk : key = k := by
          rcases slt_tri key k with h | h | h
          · exact absurd h h1
          · exact h
          · exact absurd h h2
        subst hkk
        exact ⟨0, by rw [insK_mid hlx]; simp, by simp⟩

theorem insK_srt {l : KL} {k : ByteArray} {v : Ow} (h : Srt l) : Srt (insK l k v) := by
  have key : ∀ l : KL, Srt l → Srt (insK l k v) ∧ ∀ y ∈ insK l k v, y.1 = k ∨ y ∈ l ∨ ∃ z ∈ l, z.1 = y.1 := by
    intro l
    induction l with
    | nil => intro _; exact ⟨by simp [insK, Srt], by simp [insK]⟩
    | cons x l ih =>
      intro hs
      have hc := List.pairwise_cons.1 hs
      obtain ⟨h1, h2⟩ := ih hc.2
      simp only [insK]
      split
      · rename_i hlt
        refine ⟨List.pairwise_cons.2 ⟨fun y hy => ?_, hs⟩, fun y hy => ?_⟩
        · rcases List.mem_cons.1 hy with rfl | hy
          · exact hlt
          · exact slt_trans hlt (hc.1 y hy)
        · rcases List.mem_cons.1 hy with rfl | hy
          · exact .inl rfl
          · exact .inr (.inl hy)
      · split
        · rename_i hgt
          refine ⟨List.pairwise_cons.2 ⟨fun y hy => ?_, h1⟩, fun y hy => ?_⟩
          · rcases h2 y hy with h | h | ⟨z, hz, h⟩
            · rw [h]; exact hgt
            · exact hc.1 y h
            · rw [← h]; exact hc.1 z hz
          · rcases List.mem_cons.1 hy with rfl | hy
            · exact .inr (.inl (by simp))
            · rcases h2 y hy with h | h | ⟨z, hz, h⟩
              · exact .inl h
              · exact .inr (.inl (by simp [h]))
              · exact .inr (.inr ⟨z, by simp [hz], h⟩)
        · rename_i h3 h4
          refine ⟨List.pairwise_cons.2 ⟨fun y hy => hc.1 y hy, hc.2⟩, fun y hy => ?_⟩
          rcases List.mem_cons.1 hy with rfl | hy
          · exact .inr (.inr ⟨x, by simp, rfl⟩)
          · exact .inr (.inl (by simp [hy]))
  exact (key l h).1

/-- The map at m holds l. -/
def MpA (m : Nat) (l : KL) : HP := fun h => ∃ x : Option Addr × Tr Ow, (toL x.2 = l ∧ Hk x.2 ∧ Srt l ∧ l.length < 549755813888) ∧ Sep [Cl m 90 [.pointer x.1, .int .i64 (l.length : Nat)], TrA x.1 x.2] h
theorem en_map {m : Nat} {l : KL} {aa rs : List HP} {J : PH → Prop} (pk : Pk aa (MpA m l) rs)
    (k : ∀ rt t, toL t = l → Hk t → Srt l → l.length < 549755813888 → En (Cl m 90 [.pointer rt, .int .i64 (l.length : Nat)] :: TrA rt t :: rs) J) : En aa J :=
  en_open (x := MpA m l) (fun _ h => h) pk fun x hx => k x.1 x.2 hx.1 hx.2.1 hx.2.2.1 hx.2.2.2
theorem en_mkmap {m : Nat} {l : KL} {rt : Option Addr} {t : Tr Ow} {n : Int} {aa rs : List HP} {J : PH → Prop} (hl : toL t = l) (hk : Hk t) (hs : Srt l) (hb : l.length < 549755813888) (hn : n = (l.length : Nat))
    (sx : Sx aa [Cl m 90 [.pointer rt, .int .i64 n], TrA rt t] rs) (k : En (MpA m l :: rs) J) : En aa J :=
  en_fold (fun _ hh => ⟨(rt, t), ⟨hl, hk, hs, hb⟩, by rw [← hn]; exact hh⟩) sx k
attribute [local irreducible] HTh HM En Fsp TrA Cl MpA

theorem Set_spec (m : Nat) (key : ByteArray) (v : Ow) (l : KL) (hb : l.length + 1 < 549755813888) :
    Fsp Try.prog 35 [.pointer (some ⟨m, 0, none⟩), .string key, owV v] [MpA m l] fun u aa' => u = .tuple #[] ∧ aa' = [MpA m (insK l key v)] := by
  refine spec_of F35.ok rfl fun gl X => ?_
  dsimp only [List.cons_append, List.nil_append]
  refine en_map (by repeat (first | with_reducible exact Pk.h | with_reducible apply Pk.t)) ?_
  intro rt t hl hk hs _
  subst hl
  (repeat (first | ((with_reducible apply t_run); exact rfl) | ((with_reducible apply t_p); exact rfl; exact rfl) | ((with_reducible apply t_gr); exact rfl) | ((with_reducible apply t_ge); exact rfl) | ((with_reducible apply t_ld); exact rfl; exact rfl; (repeat (first | with_reducible exact Pk.h | with_reducible apply Pk.t)); exact rfl) | ((with_reducible apply t_st); exact rfl; exact rfl; exact rfl; (repeat (first | with_reducible exact Pk.h | with_reducible apply Pk.t)); exact rfl; exact rfl; exact Nat.le_of_ble_eq_true rfl; exact rfl; (repeat (first | apply rk_nil | (apply rk_skip; exact rfl) | (apply rk_ld; exact rfl; (repeat (first | with_reducible exact Pk.h | with_reducible apply Pk.t)); exact rfl)))) | ((with_reducible apply t_nx F35.k); exact rfl; exact rfl) | with_reducible apply m_seq | (with_reducible apply m_reg mix) | with_reducible apply m_block | ((with_reducible apply m_ct); exact rfl) | ((with_reducible apply m_cf); exact rfl) | ((with_reducible apply m_skn); exact rfl) | ((with_reducible apply m_exn); exact rfl)))
  refine t_bx rfl rfl rfl fun bv => ⟨(by (repeat (first | apply rk_nil | (apply rk_skip; exact rfl) | (apply rk_ld; exact rfl; (repeat (first | with_reducible exact Pk.h | with_reducible apply Pk.t)); exact rfl)))), ?_⟩
  try dsimp only [List.cons_append, List.nil_append]
  (repeat (first | ((with_reducible apply t_run); exact rfl) | ((with_reducible apply t_p); exact rfl; exact rfl) | ((with_reducible apply t_gr); exact rfl) | ((with_reducible apply t_ge); exact rfl) | ((with_reducible apply t_ld); exact rfl; exact rfl; (repeat (first | with_reducible exact Pk.h | with_reducible apply Pk.t)); exact rfl) | ((with_reducible apply t_st); exact rfl; exact rfl; exact rfl; (repeat (first | with_reducible exact Pk.h | with_reducible apply Pk.t)); exact rfl; exact rfl; exact Nat.le_of_ble_eq_true rfl; exact rfl; (repeat (first | apply rk_nil | (apply rk_skip; exact rfl) | (apply rk_ld; exact rfl; (repeat (first | with_reducible exact Pk.h | with_reducible apply Pk.t)); exact rfl)))) | ((with_reducible apply t_nx F35.k); exact rfl; exact rfl) | with_reducible apply m_seq | (with_reducible apply m_reg mix) | with_reducible apply m_block | ((with_reducible apply m_ct); exact rfl) | ((with_reducible apply m_cf); exact rfl) | ((with_reducible apply m_skn); exact rfl) | ((with_reducible apply m_exn); exact rfl)))
  have hsz : sz t < 549755813888 := by rw [sz_len]; omega
  refine t_cl rfl rfl (set_spec m key v rt t rt _ hk hsz hs) (by repeat (first | apply Sx.nil | apply Pk.h | apply Sx.cons | apply Pk.t)) ?_
  rintro _ _ ⟨a', rfl, rfl⟩
  refine ⟨?_, ?_⟩ <;> (try dsimp only [List.cons_append, List.nil_append])
  · (repeat (first | apply rk_nil | (apply rk_skip; exact rfl) | (apply rk_ld; exact rfl; (repeat (first | with_reducible exact Pk.h | with_reducible apply Pk.t)); exact rfl)))
  (repeat (first | ((with_reducible apply t_run); exact rfl) | ((with_reducible apply t_p); exact rfl; exact rfl) | ((with_reducible apply t_gr); exact rfl) | ((with_reducible apply t_ge); exact rfl) | ((with_reducible apply t_ld); exact rfl; exact rfl; (repeat (first | with_reducible exact Pk.h | with_reducible apply Pk.t)); exact rfl) | ((with_reducible apply t_st); exact rfl; exact rfl; exact rfl; (repeat (first | with_reducible exact Pk.h | with_reducible apply Pk.t)); exact rfl; exact rfl; exact Nat.le_of_ble_eq_true rfl; exact rfl; (repeat (first | apply rk_nil | (apply rk_skip; exact rfl) | (apply rk_ld; exact rfl; (repeat (first | with_reducible exact Pk.h | with_reducible apply Pk.t)); exact rfl)))) | ((with_reducible apply t_nx F35.k); exact rfl; exact rfl) | with_reducible apply m_seq | (with_reducible apply m_reg mix) | with_reducible apply m_block | ((with_reducible apply m_ct); exact rfl) | ((with_reducible apply m_cf); exact rfl) | ((with_reducible apply m_skn); exact rfl) | ((with_reducible apply m_exn); exact rfl)))
  obtain ⟨d, h1, h2⟩ := addN_len key v t hs (toL t).length (by omega)
  obtain ⟨h3, h4, _, _⟩ := ins_ok key v t hk hsz hs
  have hlen := insK_len (toL t) key v
  refine en_mkmap (m := m) (l := insK (toL t) key v) (rt := a') (t := ins key v t) h4 h3 (insK_srt hs) (by omega) (n := addN key t ((toL t).length : Nat)) (by rw [h2, h1]) (by repeat (first | apply Sx.nil | apply Pk.h | apply Sx.cons | apply Pk.t)) ?_
  apply t_ret
  · rfl
  · (repeat (first | apply rs_nil | (apply rs_tmp; exact rfl) | (apply rs_cell; exact rfl; (repeat (first | with_reducible exact Pk.h | with_reducible apply Pk.t)); exact rfl)))
  · exact ⟨rfl, rfl⟩
  · exact (by repeat (first | apply Sx.nil | apply Pk.h | apply Sx.cons | apply Pk.t))

def fnd (key : ByteArray) : Tr Ow → Option Ow
  | .nil => none
  | .node k v _ l r => if slt key k then fnd key l else if slt k key then fnd key r else some v
theorem getK_left {l r : KL} {x : ByteArray × Ow} {key : ByteArray} (h : slt key x.1 = true) (hr : ∀ y ∈ r, slt x.1 y.1 = true) : getK (l ++ x :: r) key = getK l key := by
  have h1 : (x :: r).find? (fun y => decide (y.1 = key)) = none := by
    rw [List.find?_eq_none]
    intro y hy
    rcases List.mem_cons.1 hy with rfl | hy
    · simpa using (slt_ne h).symm
    · simpa using (slt_ne (slt_trans h (hr y hy))).symm
  simp only [getK, List.find?_append, h1, Option.or_none]
theorem getK_right {l r : KL} {x : ByteArray × Ow} {key : ByteArray} (h : slt x.1 key = true) (hl : ∀ y ∈ l, slt y.1 x.1 = true) : getK (l ++ x :: r) key = getK r key := by
  have h1 : l.find? (fun y => decide (y.1 = key)) = none := by
    rw [List.find?_eq_none]
    intro y hy
    simpa using (slt_ne (slt_trans (hl y hy) h))
  have h2 : decide (x.1 = key) = false := by simpa using slt_ne h
  simp only [getK, List.find?_append, h1, Option.none_or, List.find?_cons, h2]
theorem getK_mid {l r : KL} {v : Ow} {key : ByteArray} (hl : ∀ y ∈ l, slt y.1 key = true) : getK (l ++ (key, v) :: r) key = some v := by
  have h1 : l.find? (fun y => decide (y.1 = key)) = none := by
    rw [List.find?_eq_none]
    intro y hy
    simpa using (slt_ne (hl y hy))
  simp [getK, List.find?_append, h1]
theorem fnd_eq (key : ByteArray) : ∀ t : Tr Ow, Srt (toL t) → fnd key t = getK (toL t) key
  | .nil, _ => rfl
  | .node k v hi l r, hsrt => by
    have hsl : Srt (toL l) := (List.pairwise_append.1 hsrt).1
    have hsr : Srt (toL r) := (List.pairwise_cons.1 (List.pairwise_append.1 hsrt).2.1).2
    have hxr : ∀ y ∈ toL r, slt k y.1 = true := (List.pairwise_cons.1 (List.pairwise_append.1 hsrt).2.1).1
    have hlx : ∀ y ∈ toL l, slt y.1 k = true := fun y hy => (List.pairwise_append.1 hsrt).2.2 y hy (k, v) (by simp)
    simp only [fnd, toL]
    split
    · rename_i h; rw [fnd_eq key l hsl, getK_left h hxr]
    · split
      · rename_i h; rw [fnd_eq key r hsr, getK_right h hlx]
      · rename_i h1 h2
        have hkk : key = k := by
          rcases slt_tri key k with h | h | h
          · exact absurd h h1
          · exact h
          · exact absurd h h2
        subst hkk
        rw [getK_mid hlx]

def owZ : Ow := ⟨0, 0, ⟨#[]⟩, ⟨#[]⟩, false⟩
section
attribute [local semireducible] TrA
theorem trA_up {a : Option Addr} {t : Tr Ow} {l : List HP} {h : PH} (hs : Sep (TrA a t :: l) h) : TrA a t h := by
  obtain ⟨h1, h2, d, u, hx, _⟩ := hs
  cases t with
  | nil => exact hx
  | node k v hi l r =>
    obtain ⟨x, e, hx⟩ := hx
    exact ⟨x, e, sep_mono hx fun b o hb => by rw [u b, hb]; rfl⟩
theorem trA_node {b : Nat} {al ar : Option Addr} {k : ByteArray} {v : Ow} {hi : Int} {l r : Tr Ow} {h : PH} (hs : Sep [Cl b 92 (nodeCells k v hi al ar), TrA al l, TrA ar r] h) : TrA (some ⟨b, 0, none⟩) (.node k v hi l r) h := ⟨(b, al, ar), rfl, hs⟩
end
theorem wandL {b : Nat} {al ar rt : Option Addr} {k : ByteArray} {v : Ow} {hi : Int} {l r t : Tr Ow} : ∀ h, Sep [Wand (TrA (some ⟨b, 0, none⟩) (.node k v hi l r)) (TrA rt t), Cl b 92 (nodeCells k v hi al ar), TrA ar r] h → Wand (TrA al l) (TrA rt t) h := by
  refine wand_mk fun h hs => ?_
  have h1 : Sep ([Cl b 92 (nodeCells k v hi al ar), TrA al l, TrA ar r] ++ [Wand (TrA (some ⟨b, 0, none⟩) (.node k v hi l r)) (TrA rt t)]) h :=
    (Sx.cons (.t (.t .h)) (.cons .h (.cons (.t .h) .nil)) : Sx [TrA al l, Wand (TrA (some ⟨b, 0, none⟩) (.node k v hi l r)) (TrA rt t), Cl b 92 (nodeCells k v hi al ar), TrA ar r] [Cl b 92 (nodeCells k v hi al ar), TrA al l, TrA ar r] _).out hs
  exact trA_up (wand_use (sep_swap (sep_fold (fun _ => trA_node) h1)))
theorem wandR {b : Nat} {al ar rt : Option Addr} {k : ByteArray} {v : Ow} {hi : Int} {l r t : Tr Ow} : ∀ h, Sep [Wand (TrA (some ⟨b, 0, none⟩) (.node k v hi l r)) (TrA rt t), Cl b 92 (nodeCells k v hi al ar), TrA al l] h → Wand (TrA ar r) (TrA rt t) h := by
  refine wand_mk fun h hs => ?_
  have h1 : Sep ([Cl b 92 (nodeCells k v hi al ar), TrA al l, TrA ar r] ++ [Wand (TrA (some ⟨b, 0, none⟩) (.node k v hi l r)) (TrA rt t)]) h :=
    (Sx.cons (.t (.t .h)) (.cons (.t (.t .h)) (.cons .h .nil)) : Sx [TrA ar r, Wand (TrA (some ⟨b, 0, none⟩) (.node k v hi l r)) (TrA rt t), Cl b 92 (nodeCells k v hi al ar), TrA al l] [Cl b 92 (nodeCells k v hi al ar), TrA al l, TrA ar r] _).out hs
  exact trA_up (wand_use (sep_swap (sep_fold (fun _ => trA_node) h1)))

def getE (m b4 b6 : Nat) (key : ByteArray) (a : Option Addr) : Env := [(0, .pointer (some ⟨m, 0, none⟩)), (1, .string key), (4, .pointer (some ⟨b4, 0, none⟩)), (6, .pointer (some ⟨b6, 0, none⟩)), (7, .pointer a)]
def getA (m b4 b6 : Nat) (rt : Option Addr) (t : Tr Ow) (X : HP) (a : Option Addr) (t' : Tr Ow) : List HP :=
  [Wand (TrA a t') (TrA rt t), TrA a t', Cl b4 63 (owV owZ).cells.toList, Cl b6 63 (owV owZ).cells.toList, Cl m 90 [.pointer rt, .int .i64 ((toL t).length : Nat)], X]
theorem get_body (gl : Gl) (X : HP) (m b4 b6 : Nat) (key : ByteArray) (rt : Option Addr) (t : Tr Ow) (hk : Hk t) (hs : Srt (toL t)) (hb : (toL t).length < 549755813888) (J : Nat → Env → PH → Prop) (a : Option Addr) (t' : Tr Ow)
    (hJ : ∀ (a2 : Option Addr) (t2 : Tr Ow) (e : Env), sz t2 < sz t' → fnd key t2 = fnd key t → Env.le (getE m b4 b6 key a2) e → En (getA m b4 b6 rt t X a2 t2) (J 0 e)) (hf : fnd key t' = fnd key t) :
    En (getA m b4 b6 rt t X a t') (HM Try.prog 45 gl F30l0 (scopeK F30s1 J (retK [(4, (some (some 5))), (5, none)] (PostJ (fun u aa' => u = .tuple #[owV ((fnd key t).getD owZ), .bool (fnd key t).isSome] ∧ aa' = [MpA m (toL t)]) X))) (getE m b4 b6 key a)) := by
  unfold getA getE
  -- spec_of F30.ok
  cases t' with
  | nil =>
    refine en_nil (by repeat (first | with_reducible exact Pk.h | with_reducible apply Pk.t)) ?_
    rintro rfl
    (repeat (first | ((with_reducible apply t_run); exact rfl) | ((with_reducible apply t_p); exact rfl; exact rfl) | ((with_reducible apply t_gr); exact rfl) | ((with_reducible apply t_ge); exact rfl) | ((with_reducible apply t_ld); exact rfl; exact rfl; (repeat (first | with_reducible exact Pk.h | with_reducible apply Pk.t)); exact rfl) | ((with_reducible apply t_st); exact rfl; exact rfl; exact rfl; (repeat (first | with_reducible exact Pk.h | with_reducible apply Pk.t)); exact rfl; exact rfl; exact Nat.le_of_ble_eq_true rfl; exact rfl; (repeat (first | apply rk_nil | (apply rk_skip; exact rfl) | (apply rk_ld; exact rfl; (repeat (first | with_reducible exact Pk.h | with_reducible apply Pk.t)); exact rfl)))) | ((with_reducible apply t_nx F30.k); exact rfl; exact rfl) | with_reducible apply m_seq | (with_reducible apply m_reg mix) | with_reducible apply m_block | ((with_reducible apply m_ct); exact rfl) | ((with_reducible apply m_cf); exact rfl) | ((with_reducible apply m_skn); exact rfl) | ((with_reducible apply m_exn); exact rfl)))
    refine en_wand (x := TrA none .nil) (y := TrA rt t) (by repeat (first | apply Sx.nil | apply Pk.h | apply Sx.cons | apply Pk.t)) ?_
    refine en_mkmap (m := m) rfl hk hs hb rfl (by repeat (first | apply Sx.nil | apply Pk.h | apply Sx.cons | apply Pk.t)) ?_
    rw [← hf]
    apply m_ret
    · rfl
    · (repeat (first | apply rs_nil | (apply rs_tmp; exact rfl) | (apply rs_cell; exact rfl; (repeat (first | with_reducible exact Pk.h | with_reducible apply Pk.t)); exact rfl)))
    · exact ⟨rfl, rfl⟩
    · exact (by repeat (first | apply Sx.nil | apply Pk.h | apply Sx.cons | apply Pk.t))
  | node k v hi l r =>
    refine en_tree (by repeat (first | with_reducible exact Pk.h | with_reducible apply Pk.t)) ?_
    rintro b al ar rfl
    (repeat (first | ((with_reducible apply t_run); exact rfl) | ((with_reducible apply t_p); exact rfl; exact rfl) | ((with_reducible apply t_gr); exact rfl) | ((with_reducible apply t_ge); exact rfl) | ((with_reducible apply t_ld); exact rfl; exact rfl; (repeat (first | with_reducible exact Pk.h | with_reducible apply Pk.t)); exact rfl) | ((with_reducible apply t_st); exact rfl; exact rfl; exact rfl; (repeat (first | with_reducible exact Pk.h | with_reducible apply Pk.t)); exact rfl; exact rfl; exact Nat.le_of_ble_eq_true rfl; exact rfl; (repeat (first | apply rk_nil | (apply rk_skip; exact rfl) | (apply rk_ld; exact rfl; (repeat (first | with_reducible exact Pk.h | with_reducible apply Pk.t)); exact rfl)))) | ((with_reducible apply t_nx F30.k); exact rfl; exact rfl) | with_reducible apply m_seq | (with_reducible apply m_reg mix) | with_reducible apply m_block | ((with_reducible apply m_ct); exact rfl) | ((with_reducible apply m_cf); exact rfl) | ((with_reducible apply m_skn); exact rfl) | ((with_reducible apply m_exn); exact rfl)))
    refine m_cond rfl (fun h1 => ?_) (fun h1 => ?_)
    · (repeat (first | ((with_reducible apply t_run); exact rfl) | ((with_reducible apply t_p); exact rfl; exact rfl) | ((with_reducible apply t_gr); exact rfl) | ((with_reducible apply t_ge); exact rfl) | ((with_reducible apply t_ld); exact rfl; exact rfl; (repeat (first | with_reducible exact Pk.h | with_reducible apply Pk.t)); exact rfl) | ((with_reducible apply t_st); exact rfl; exact rfl; exact rfl; (repeat (first | with_reducible exact Pk.h | with_reducible apply Pk.t)); exact rfl; exact rfl; exact Nat.le_of_ble_eq_true rfl; exact rfl; (repeat (first | apply rk_nil | (apply rk_skip; exact rfl) | (apply rk_ld; exact rfl; (repeat (first | with_reducible exact Pk.h | with_reducible apply Pk.t)); exact rfl)))) | ((with_reducible apply t_nx F30.k); exact rfl; exact rfl) | with_reducible apply m_seq | (with_reducible apply m_reg mix) | with_reducible apply m_block | ((with_reducible apply m_ct); exact rfl) | ((with_reducible apply m_cf); exact rfl) | ((with_reducible apply m_skn); exact rfl) | ((with_reducible apply m_exn); exact rfl)))
      refine m_gto rfl rfl ?_
      refine en_fold (x := Wand (TrA al l) (TrA rt t)) wandL (by repeat (first | apply Sx.nil | apply Pk.h | apply Sx.cons | apply Pk.t)) ?_
      refine en_sx (ys := getA m b4 b6 rt t X al l) (by unfold getA; repeat (first | apply Sx.nil | apply Pk.h | apply Sx.cons | apply Pk.t)) ?_
      refine hJ al l _ (by simp only [sz]; omega) (by rw [← hf]; simp only [fnd]; rw [if_pos h1]) (selO_get (L := [0, 1, 4, 6, 7]) rfl)
    · (repeat (first | ((with_reducible apply t_run); exact rfl) | ((with_reducible apply t_p); exact rfl; exact rfl) | ((with_reducible apply t_gr); exact rfl) | ((with_reducible apply t_ge); exact rfl) | ((with_reducible apply t_ld); exact rfl; exact rfl; (repeat (first | with_reducible exact Pk.h | with_reducible apply Pk.t)); exact rfl) | ((with_reducible apply t_st); exact rfl; exact rfl; exact rfl; (repeat (first | with_reducible exact Pk.h | with_reducible apply Pk.t)); exact rfl; exact rfl; exact Nat.le_of_ble_eq_true rfl; exact rfl; (repeat (first | apply rk_nil | (apply rk_skip; exact rfl) | (apply rk_ld; exact rfl; (repeat (first | with_reducible exact Pk.h | with_reducible apply Pk.t)); exact rfl)))) | ((with_reducible apply t_nx F30.k); exact rfl; exact rfl) | with_reducible apply m_seq | (with_reducible apply m_reg mix) | with_reducible apply m_block | ((with_reducible apply m_ct); exact rfl) | ((with_reducible apply m_cf); exact rfl) | ((with_reducible apply m_skn); exact rfl) | ((with_reducible apply m_exn); exact rfl)))
      refine m_cond rfl (fun h2 => ?_) (fun h2 => ?_)
      · (repeat (first | ((with_reducible apply t_run); exact rfl) | ((with_reducible apply t_p); exact rfl; exact rfl) | ((with_reducible apply t_gr); exact rfl) | ((with_reducible apply t_ge); exact rfl) | ((with_reducible apply t_ld); exact rfl; exact rfl; (repeat (first | with_reducible exact Pk.h | with_reducible apply Pk.t)); exact rfl) | ((with_reducible apply t_st); exact rfl; exact rfl; exact rfl; (repeat (first | with_reducible exact Pk.h | with_reducible apply Pk.t)); exact rfl; exact rfl; exact Nat.le_of_ble_eq_true rfl; exact rfl; (repeat (first | apply rk_nil | (apply rk_skip; exact rfl) | (apply rk_ld; exact rfl; (repeat (first | with_reducible exact Pk.h | with_reducible apply Pk.t)); exact rfl)))) | ((with_reducible apply t_nx F30.k); exact rfl; exact rfl) | with_reducible apply m_seq | (with_reducible apply m_reg mix) | with_reducible apply m_block | ((with_reducible apply m_ct); exact rfl) | ((with_reducible apply m_cf); exact rfl) | ((with_reducible apply m_skn); exact rfl) | ((with_reducible apply m_exn); exact rfl)))
        refine m_gto rfl rfl ?_
        refine en_fold (x := Wand (TrA ar r) (TrA rt t)) wandR (by repeat (first | apply Sx.nil | apply Pk.h | apply Sx.cons | apply Pk.t)) ?_
        refine en_sx (ys := getA m b4 b6 rt t X ar r) (by unfold getA; repeat (first | apply Sx.nil | apply Pk.h | apply Sx.cons | apply Pk.t)) ?_
        refine hJ ar r _ (by simp only [sz]; omega) (by rw [← hf]; simp only [fnd]; rw [if_neg (by simp [h1]), if_pos h2]) (selO_get (L := [0, 1, 4, 6, 7]) rfl)
      · (repeat (first | ((with_reducible apply t_run); exact rfl) | ((with_reducible apply t_p); exact rfl; exact rfl) | ((with_reducible apply t_gr); exact rfl) | ((with_reducible apply t_ge); exact rfl) | ((with_reducible apply t_ld); exact rfl; exact rfl; (repeat (first | with_reducible exact Pk.h | with_reducible apply Pk.t)); exact rfl) | ((with_reducible apply t_st); exact rfl; exact rfl; exact rfl; (repeat (first | with_reducible exact Pk.h | with_reducible apply Pk.t)); exact rfl; exact rfl; exact Nat.le_of_ble_eq_true rfl; exact rfl; (repeat (first | apply rk_nil | (apply rk_skip; exact rfl) | (apply rk_ld; exact rfl; (repeat (first | with_reducible exact Pk.h | with_reducible apply Pk.t)); exact rfl)))) | ((with_reducible apply t_nx F30.k); exact rfl; exact rfl) | with_reducible apply m_seq | (with_reducible apply m_reg mix) | with_reducible apply m_block | ((with_reducible apply m_ct); exact rfl) | ((with_reducible apply m_cf); exact rfl) | ((with_reducible apply m_skn); exact rfl) | ((with_reducible apply m_exn); exact rfl)))
        refine en_node (b := b) (l := l) (r := r) (by repeat (first | apply Sx.nil | apply Pk.h | apply Sx.cons | apply Pk.t)) ?_
        refine en_wand (y := TrA rt t) (by repeat (first | apply Sx.nil | apply Pk.h | apply Sx.cons | apply Pk.t)) ?_
        refine en_mkmap (m := m) rfl hk hs hb rfl (by repeat (first | apply Sx.nil | apply Pk.h | apply Sx.cons | apply Pk.t)) ?_
        have hf2 : fnd key t = some v := by rw [← hf]; simp only [fnd]; rw [if_neg (by simp [h1]), if_neg (by simp [h2])]
        rw [hf2]
        apply m_ret
        · rfl
        · (repeat (first | apply rs_nil | (apply rs_tmp; exact rfl) | (apply rs_cell; exact rfl; (repeat (first | with_reducible exact Pk.h | with_reducible apply Pk.t)); exact rfl)))
        · exact ⟨rfl, rfl⟩
        · exact (by repeat (first | apply Sx.nil | apply Pk.h | apply Sx.cons | apply Pk.t))

theorem Get_spec (m : Nat) (key : ByteArray) (l : KL) :
    Fsp Try.prog 30 [.pointer (some ⟨m, 0, none⟩), .string key] [MpA m l] fun u aa' => u = .tuple #[owV ((getK l key).getD owZ), .bool (getK l key).isSome] ∧ aa' = [MpA m l] := by
  refine spec_of F30.ok rfl fun gl X => ?_
  dsimp only [List.cons_append, List.nil_append]
  refine en_map (by repeat (first | with_reducible exact Pk.h | with_reducible apply Pk.t)) ?_
  intro rt t hl hk hs hb
  subst hl
  rw [← fnd_eq key t hs]
  refine m_seq (m_reg mix (t_al rfl fun b4 => ⟨rk_nil, ?_⟩))
  (repeat (first | ((with_reducible apply t_run); exact rfl) | ((with_reducible apply t_p); exact rfl; exact rfl) | ((with_reducible apply t_gr); exact rfl) | ((with_reducible apply t_ge); exact rfl) | ((with_reducible apply t_ld); exact rfl; exact rfl; (repeat (first | with_reducible exact Pk.h | with_reducible apply Pk.t)); exact rfl) | ((with_reducible apply t_st); exact rfl; exact rfl; exact rfl; (repeat (first | with_reducible exact Pk.h | with_reducible apply Pk.t)); exact rfl; exact rfl; exact Nat.le_of_ble_eq_true rfl; exact rfl; (repeat (first | apply rk_nil | (apply rk_skip; exact rfl) | (apply rk_ld; exact rfl; (repeat (first | with_reducible exact Pk.h | with_reducible apply Pk.t)); exact rfl)))) | ((with_reducible apply t_nx F30.k); exact rfl; exact rfl) | with_reducible apply m_seq | (with_reducible apply m_reg mix) | with_reducible apply m_block | ((with_reducible apply m_ct); exact rfl) | ((with_reducible apply m_cf); exact rfl) | ((with_reducible apply m_skn); exact rfl) | ((with_reducible apply m_exn); exact rfl)))
  refine m_scope (α := Nat × Option Addr × Tr Ow) (fun x l e aa => l = 0 ∧ fnd key x.2.2 = fnd key t ∧ Env.le (getE m b4 x.1 key x.2.1) e ∧ aa = getA m b4 x.1 rt t X x.2.1 x.2.2) (fun x => sz x.2.2) ?_ ?_
  · refine m_seq (m_reg mix (t_al rfl fun b6 => ⟨rk_nil, ?_⟩))
    (repeat (first | ((with_reducible apply t_run); exact rfl) | ((with_reducible apply t_p); exact rfl; exact rfl) | ((with_reducible apply t_gr); exact rfl) | ((with_reducible apply t_ge); exact rfl) | ((with_reducible apply t_ld); exact rfl; exact rfl; (repeat (first | with_reducible exact Pk.h | with_reducible apply Pk.t)); exact rfl) | ((with_reducible apply t_st); exact rfl; exact rfl; exact rfl; (repeat (first | with_reducible exact Pk.h | with_reducible apply Pk.t)); exact rfl; exact rfl; exact Nat.le_of_ble_eq_true rfl; exact rfl; (repeat (first | apply rk_nil | (apply rk_skip; exact rfl) | (apply rk_ld; exact rfl; (repeat (first | with_reducible exact Pk.h | with_reducible apply Pk.t)); exact rfl)))) | ((with_reducible apply t_nx F30.k); exact rfl; exact rfl) | with_reducible apply m_seq | (with_reducible apply m_reg mix) | with_reducible apply m_block | ((with_reducible apply m_ct); exact rfl) | ((with_reducible apply m_cf); exact rfl) | ((with_reducible apply m_skn); exact rfl) | ((with_reducible apply m_exn); exact rfl)))
    refine m_lbn rfl ?_
    refine en_emp (x := Wand (TrA rt t) (TrA rt t)) (wand_mk (ys := []) (fun h hs => trA_up hs) _ trivial) ?_
    refine en_sx (ys := getA m b4 b6 rt t X rt t) (by unfold getA; repeat (first | apply Sx.nil | apply Pk.h | apply Sx.cons | apply Pk.t)) ?_
    refine m_less (e' := getE m b4 b6 key rt) (selO_get (L := [0, 1, 4, 6, 7]) rfl) ?_
    refine get_body gl X m b4 b6 key rt t hk hs hb _ rt t ?_ rfl
    intro a2 t2 e _ h2 h3
    refine en_i fun h hs => ?_
    exact ⟨(b6, a2, t2), _, ⟨rfl, h2, h3, rfl⟩, hs⟩
  · rintro ⟨b6, a, t'⟩ l mr e aa hm ⟨rfl, h1, h2, rfl⟩
    obtain rfl : MC.seq .skip F30l0 = mr := by injection hm
    refine m_less h2 ?_
    refine m_seq (m_skn rfl ?_)
    refine get_body gl X m b4 b6 key rt t hk hs hb _ a t' ?_ h1
    intro a2 t2 e hlt h2 h3
    refine en_i fun h hs => ?_
    exact ⟨(b6, a2, t2), _, hlt, ⟨rfl, h2, h3, rfl⟩, hs⟩
end Go.Proofs.Ythcbefkgfhokoaa

/- The map: cut. -/
namespace Go.Proofs.Ythcbefkgfhokoaa
open Go Go.Dv
set_option maxRecDepth 100000

def popT : Tr Ow → Tr Ow
  | .nil => .nil
  | .node _ _ _ .nil r => r
  | .node k v _ (.node lk lv lh ll lr) r => even k v (popT (.node lk lv lh ll lr)) r
def popK : Tr Ow → ByteArray × Ow
  | .nil => (⟨#[]⟩, owZ)
  | .node k v _ .nil _ => (k, v)
  | .node _ _ _ (.node lk lv lh ll lr) _ => popK (.node lk lv lh ll lr)
theorem pop_ok : ∀ (t : Tr Ow), Hk t → sz t < 549755813888 → isN t = true → Hk (popT t) ∧ toL t = popK t :: toL (popT t) ∧ sz t = sz (popT t) + 1
  | .nil, _, _, h => by cases h
  | .node k v hi .nil r, h, _, _ => ⟨h.2.2, by simp [toL, popK, popT], by simp [sz, popT]⟩
  | .node k v hi (.node lk lv lh ll lr) r, h, hs, _ => by
    obtain ⟨h1, h2, h3⟩ := pop_ok (.node lk lv lh ll lr) h.2.1 (by simp only [sz] at hs ⊢; omega) rfl
    have h4 : sz (Tr.node lk lv lh ll lr) + sz r < 549755813888 := by simp only [sz] at hs ⊢; omega
    have hev := even_same (k := k) (v := v) h1 h.2.2 (by omega)
    simp only [popT, popK]
    refine ⟨hev.hk, ?_, ?_⟩
    · rw [hev.toL, toL, h2]; simp
    · rw [hev.sz]; simp only [sz] at h3 ⊢; omega
attribute [local irreducible] HTh HM En Fsp TrA Cl MpA

set_option maxHeartbeats 1000000 in
theorem first_spec : ∀ (t : Tr Ow) (a : Option Addr), Hk t → sz t < 549755813888 → isN t = true →
    Fsp Try.prog 71 [.pointer a] [TrA a t] fun u aa' => ∃ a' b hi ar, u = .tuple #[.pointer a', .pointer (some ⟨b, 0, none⟩)] ∧
      aa' = [TrA a' (popT t), Cl b 92 (nodeCells (popK t).1 (popK t).2 hi none ar)] := by
  intro t
  induction t with
  | nil => intro a _ _ h; cases h
  | node k v hi l r ihl ihr =>
    intro a hk hs _
    refine spec_of F71.ok rfl fun gl X => ?_
    dsimp only [List.cons_append, List.nil_append]
    refine en_tree (by repeat (first | with_reducible exact Pk.h | with_reducible apply Pk.t)) ?_
    rintro b al ar rfl
    cases l with
    | nil =>
      refine en_nil (by repeat (first | with_reducible exact Pk.h | with_reducible apply Pk.t)) ?_
      rintro rfl
      (repeat (first | ((with_reducible apply t_run); exact rfl) | ((with_reducible apply t_p); exact rfl; exact rfl) | ((with_reducible apply t_gr); exact rfl) | ((with_reducible apply t_ge); exact rfl) | ((with_reducible apply t_ld); exact rfl; exact rfl; (repeat (first | with_reducible exact Pk.h | with_reducible apply Pk.t)); exact rfl) | ((with_reducible apply t_st); exact rfl; exact rfl; exact rfl; (repeat (first | with_reducible exact Pk.h | with_reducible apply Pk.t)); exact rfl; exact rfl; exact Nat.le_of_ble_eq_true rfl; exact rfl; (repeat (first | apply rk_nil | (apply rk_skip; exact rfl) | (apply rk_ld; exact rfl; (repeat (first | with_reducible exact Pk.h | with_reducible apply Pk.t)); exact rfl)))) | ((with_reducible apply t_nx F71.k); exact rfl; exact rfl) | with_reducible apply m_seq | (with_reducible apply m_reg mix) | with_reducible apply m_block | ((with_reducible apply m_ct); exact rfl) | ((with_reducible apply m_cf); exact rfl) | ((with_reducible apply m_skn); exact rfl) | ((with_reducible apply m_exn); exact rfl)))
      apply m_ret
      · rfl
      · (repeat (first | apply rs_nil | (apply rs_tmp; exact rfl) | (apply rs_cell; exact rfl; (repeat (first | with_reducible exact Pk.h | with_reducible apply Pk.t)); exact rfl)))
      · exact ⟨_, _, hi, ar, rfl, rfl⟩
      · exact (by repeat (first | apply Sx.nil | apply Pk.h | apply Sx.cons | apply Pk.t))
    | node lk lv lh ll lr =>
      obtain ⟨h1, h2, h3⟩ := pop_ok (.node lk lv lh ll lr) hk.2.1 (by simp only [sz] at hs ⊢; omega) rfl
      have h4 : sz (Tr.node lk lv lh ll lr) + sz r < 549755813888 := by simp only [sz] at hs ⊢; omega
      have hev := evOk_of h1 hk.2.2 (by omega)
      refine en_tree (a := al) (by repeat (first | with_reducible exact Pk.h | with_reducible apply Pk.t)) ?_
      rintro c bl br rfl
      (repeat (first | ((with_reducible apply t_run); exact rfl) | ((with_reducible apply t_p); exact rfl; exact rfl) | ((with_reducible apply t_gr); exact rfl) | ((with_reducible apply t_ge); exact rfl) | ((with_reducible apply t_ld); exact rfl; exact rfl; (repeat (first | with_reducible exact Pk.h | with_reducible apply Pk.t)); exact rfl) | ((with_reducible apply t_st); exact rfl; exact rfl; exact rfl; (repeat (first | with_reducible exact Pk.h | with_reducible apply Pk.t)); exact rfl; exact rfl; exact Nat.le_of_ble_eq_true rfl; exact rfl; (repeat (first | apply rk_nil | (apply rk_skip; exact rfl) | (apply rk_ld; exact rfl; (repeat (first | with_reducible exact Pk.h | with_reducible apply Pk.t)); exact rfl)))) | ((with_reducible apply t_nx F71.k); exact rfl; exact rfl) | with_reducible apply m_seq | (with_reducible apply m_reg mix) | with_reducible apply m_block | ((with_reducible apply m_ct); exact rfl) | ((with_reducible apply m_cf); exact rfl) | ((with_reducible apply m_skn); exact rfl) | ((with_reducible apply m_exn); exact rfl)))
      refine en_node (b := c) (l := ll) (r := lr) (by repeat (first | apply Sx.nil | apply Pk.h | apply Sx.cons | apply Pk.t)) ?_
      refine t_cl rfl rfl (ihl (some ⟨c, 0, none⟩) hk.2.1 (by omega) rfl) (by repeat (first | apply Sx.nil | apply Pk.h | apply Sx.cons | apply Pk.t)) ?_
      rintro _ _ ⟨a', b', hi', ar', rfl, rfl⟩
      refine ⟨?_, ?_⟩ <;> (try dsimp only [List.cons_append, List.nil_append])
      · (repeat (first | apply rk_nil | (apply rk_skip; exact rfl) | (apply rk_ld; exact rfl; (repeat (first | with_reducible exact Pk.h | with_reducible apply Pk.t)); exact rfl)))
      (repeat (first | ((with_reducible apply t_run); exact rfl) | ((with_reducible apply t_p); exact rfl; exact rfl) | ((with_reducible apply t_gr); exact rfl) | ((with_reducible apply t_ge); exact rfl) | ((with_reducible apply t_ld); exact rfl; exact rfl; (repeat (first | with_reducible exact Pk.h | with_reducible apply Pk.t)); exact rfl) | ((with_reducible apply t_st); exact rfl; exact rfl; exact rfl; (repeat (first | with_reducible exact Pk.h | with_reducible apply Pk.t)); exact rfl; exact rfl; exact Nat.le_of_ble_eq_true rfl; exact rfl; (repeat (first | apply rk_nil | (apply rk_skip; exact rfl) | (apply rk_ld; exact rfl; (repeat (first | with_reducible exact Pk.h | with_reducible apply Pk.t)); exact rfl)))) | ((with_reducible apply t_nx F71.k); exact rfl; exact rfl) | with_reducible apply m_seq | (with_reducible apply m_reg mix) | with_reducible apply m_block | ((with_reducible apply m_ct); exact rfl) | ((with_reducible apply m_cf); exact rfl) | ((with_reducible apply m_skn); exact rfl) | ((with_reducible apply m_exn); exact rfl)))
      refine en_node (b := b) (k := k) (l := popT (.node lk lv lh ll lr)) (r := r) (by repeat (first | apply Sx.nil | apply Pk.h | apply Sx.cons | apply Pk.t)) ?_
      refine t_cl rfl rfl (even_spec (some ⟨b, 0, none⟩) k v _ _ _ hev) (by repeat (first | apply Sx.nil | apply Pk.h | apply Sx.cons | apply Pk.t)) ?_
      rintro _ _ ⟨a2, rfl, rfl⟩
      refine ⟨?_, ?_⟩ <;> (try dsimp only [List.cons_append, List.nil_append])
      · (repeat (first | apply rk_nil | (apply rk_skip; exact rfl) | (apply rk_ld; exact rfl; (repeat (first | with_reducible exact Pk.h | with_reducible apply Pk.t)); exact rfl)))
      (repeat (first | ((with_reducible apply t_run); exact rfl) | ((with_reducible apply t_p); exact rfl; exact rfl) | ((with_reducible apply t_gr); exact rfl) | ((with_reducible apply t_ge); exact rfl) | ((with_reducible apply t_ld); exact rfl; exact rfl; (repeat (first | with_reducible exact Pk.h | with_reducible apply Pk.t)); exact rfl) | ((with_reducible apply t_st); exact rfl; exact rfl; exact rfl; (repeat (first | with_reducible exact Pk.h | with_reducible apply Pk.t)); exact rfl; exact rfl; exact Nat.le_of_ble_eq_true rfl; exact rfl; (repeat (first | apply rk_nil | (apply rk_skip; exact rfl) | (apply rk_ld; exact rfl; (repeat (first | with_reducible exact Pk.h | with_reducible apply Pk.t)); exact rfl)))) | ((with_reducible apply t_nx F71.k); exact rfl; exact rfl) | with_reducible apply m_seq | (with_reducible apply m_reg mix) | with_reducible apply m_block | ((with_reducible apply m_ct); exact rfl) | ((with_reducible apply m_cf); exact rfl) | ((with_reducible apply m_skn); exact rfl) | ((with_reducible apply m_exn); exact rfl)))
      apply m_ret
      · rfl
      · (repeat (first | apply rs_nil | (apply rs_tmp; exact rfl) | (apply rs_cell; exact rfl; (repeat (first | with_reducible exact Pk.h | with_reducible apply Pk.t)); exact rfl)))
      · exact ⟨_, _, hi', ar', rfl, rfl⟩
      · exact (by repeat (first | apply Sx.nil | apply Pk.h | apply Sx.cons | apply Pk.t))

def cutT (key : ByteArray) : Tr Ow → Tr Ow
  | .nil => .nil
  | .node k v _ l r => if slt key k then even k v (cutT key l) r else if slt k key then even k v l (cutT key r) else
    match r with
    | .nil => l
    | .node rk rv rh rl rr => even (popK (.node rk rv rh rl rr)).1 (popK (.node rk rv rh rl rr)).2 l (popT (.node rk rv rh rl rr))
def subN (key : ByteArray) : Tr Ow → Int → Int
  | .nil, n => n
  | .node k _ _ l r, n => if slt key k then subN key l n else if slt k key then subN key r n else IntKind.i64.wrap (n - 1)

theorem cutK_no {l : KL} {key : ByteArray} (h : ∀ y ∈ l, y.1 ≠ key) : cutK l key = l := by
  simp only [cutK]
  rw [List.filter_eq_self]
  intro y hy
  simpa using h y hy
theorem cut_ok (key : ByteArray) : ∀ t : Tr Ow, Hk t → sz t < 549755813888 → Srt (toL t) → Hk (cutT key t) ∧ toL (cutT key t) = cutK (toL t) key ∧ sz (cutT key t) ≤ sz t ∧
    ∀ n : Nat, sz t ≤ n → n < 4611686018427387904 → ∃ d : Nat, sz t = sz (cutT key t) + d ∧ subN key t (n : Int) = ((n - d : Nat) : Int)
  | .nil, _, _, _ => ⟨trivial, rfl, by simp [cutT], fun n _ _ => ⟨0, by simp [cutT], by simp [subN]⟩⟩
  | .node k v hi l r, h, hs, hsrt => by
    simp only [sz] at hs
    obtain ⟨hhi, hl, hr⟩ := h
    have hsl : Srt (toL l) := (List.pairwise_append.1 hsrt).1
    have hsr : Srt (toL r) := (List.pairwise_cons.1 (List.pairwise_append.1 hsrt).2.1).2
    have hxr : ∀ y ∈ toL r, slt k y.1 = true := (List.pairwise_cons.1 (List.pairwise_append.1 hsrt).2.1).1
    have hlx : ∀ y ∈ toL l, slt y.1 k = true := fun y hy => (List.pairwise_append.1 hsrt).2.2 y hy (k, v) (by simp)
    simp only [cutT, toL, subN]
    split
    · rename_i hlt
      obtain ⟨h1, h2, h3, h4⟩ := cut_ok key l hl (by omega) hsl
      have hev := even_same (k := k) (v := v) h1 hr (by omega)
      refine ⟨hev.hk, ?_, by rw [hev.sz]; simp only [sz]; omega, fun n hn hn' => ?_⟩
      · rw [hev.toL, h2]
        have e1 : cutK ((k, v) :: toL r) key = (k, v) :: toL r := cutK_no (by
          intro y hy
          rcases List.mem_cons.1 hy with rfl | hy
          · exact (slt_ne hlt).symm
          · exact (slt_ne (slt_trans hlt (hxr y hy))).symm)
        simp only [cutK, List.filter_append] at e1 ⊢
        rw [e1]
      · simp only [sz] at hn
        obtain ⟨d, hd1, hd2⟩ := h4 n (by omega) hn'
        exact ⟨d, by rw [hev.sz]; simp only [sz]; omega, hd2⟩
    · rename_i hlt
      split
      · rename_i hgt
        obtain ⟨h1, h2, h3, h4⟩ := cut_ok key r hr (by omega) hsr
        have hev := even_same (k := k) (v := v) hl h1 (by omega)
        refine ⟨hev.hk, ?_, by rw [hev.sz]; simp only [sz]; omega, fun n hn hn' => ?_⟩
        · rw [hev.toL, h2]
          have e1 : cutK (toL l) key = toL l := cutK_no (fun y hy => slt_ne (slt_trans (hlx y hy) hgt))
          have e2 : decide (k ≠ key) = true := by simpa using slt_ne hgt
          simp only [cutK, List.filter_append, List.filter_cons] at e1 ⊢
          rw [e1, e2]; simp
        · simp only [sz] at hn
          obtain ⟨d, hd1, hd2⟩ := h4 n (by omega) hn'
          exact ⟨d, by rw [hev.sz]; simp only [sz]; omega, hd2⟩
      · rename_i hgt
        have hkk : key = k := by
          rcases slt_tri key k with h | h | h
          · exact absurd h hlt
          · exact h
          · exact absurd h hgt
        subst hkk
        have e1 : cutK (toL l) key = toL l := cutK_no (fun y hy => slt_ne (hlx y hy))
        have e2 : cutK (toL r) key = toL r := cutK_no (fun y hy => (slt_ne (hxr y hy)).symm)
        have e3 : cutK (toL l ++ (key, v) :: toL r) key = toL l ++ toL r := by
          simp only [cutK, List.filter_append, List.filter_cons] at e1 e2 ⊢
          rw [e1, e2]; simp
        have e4 : ∀ n : Nat, 1 ≤ n → n < 4611686018427387904 → IntKind.i64.wrap ((n : Int) - 1) = ((n - 1 : Nat) : Int) := by
          intro n h1 h2
          simp only [IntKind.wrap, IntKind.bits, IntKind.signed]; simp; omega
        rw [e3]
        cases r with
        | nil => exact ⟨hl, by simp [toL], by simp only [sz]; omega, fun n hn hn' => ⟨1, by simp [sz], e4 n (by simp only [sz] at hn; omega) hn'⟩⟩
        | node rk rv rh rl rr =>
          obtain ⟨h1, h2, h3⟩ := pop_ok (.node rk rv rh rl rr) hr (by omega) rfl
          have hev := even_same (k := (popK (.node rk rv rh rl rr)).1) (v := (popK (.node rk rv rh rl rr)).2) hl h1 (by omega)
          refine ⟨hev.hk, ?_, ?_, fun n hn hn' => ⟨1, ?_, e4 n (by simp only [sz] at hn; omega) hn'⟩⟩
          · rw [hev.toL, h2]
          · simp only [hev.sz, sz] at h3 ⊢; omega
          · simp only [hev.sz, sz] at h3 ⊢; omega

set_option maxHeartbeats 1000000 in
theorem cut_spec (m : Nat) (key : ByteArray) (rt : Option Addr) : ∀ (t : Tr Ow) (a : Option Addr) (n : Int), Hk t → sz t < 549755813888 → Srt (toL t) →
    Fsp Try.prog 57 [.pointer (some ⟨m, 0, none⟩), .pointer a, .string key] [Cl m 90 [.pointer rt, .int .i64 n], TrA a t]
      fun u aa' => ∃ a', u = .pointer a' ∧ aa' = [Cl m 90 [.pointer rt, .int .i64 (subN key t n)], TrA a' (cutT key t)] := by
  intro t
  induction t with
  | nil =>
    intro a n _ _ _
    refine spec_of F57.ok rfl fun gl X => ?_
    dsimp only [List.cons_append, List.nil_append]
    refine en_nil (by repeat (first | with_reducible exact Pk.h | with_reducible apply Pk.t)) ?_
    rintro rfl
    (repeat (first | ((with_reducible apply t_run); exact rfl) | ((with_reducible apply t_p); exact rfl; exact rfl) | ((with_reducible apply t_gr); exact rfl) | ((with_reducible apply t_ge); exact rfl) | ((with_reducible apply t_ld); exact rfl; exact rfl; (repeat (first | with_reducible exact Pk.h | with_reducible apply Pk.t)); exact rfl) | ((with_reducible apply t_st); exact rfl; exact rfl; exact rfl; (repeat (first | with_reducible exact Pk.h | with_reducible apply Pk.t)); exact rfl; exact rfl; exact Nat.le_of_ble_eq_true rfl; exact rfl; (repeat (first | apply rk_nil | (apply rk_skip; exact rfl) | (apply rk_ld; exact rfl; (repeat (first | with_reducible exact Pk.h | with_reducible apply Pk.t)); exact rfl)))) | ((with_reducible apply t_nx F57.k); exact rfl; exact rfl) | with_reducible apply m_seq | (with_reducible apply m_reg mix) | with_reducible apply m_block | ((with_reducible apply m_ct); exact rfl) | ((with_reducible apply m_cf); exact rfl) | ((with_reducible apply m_skn); exact rfl) | ((with_reducible apply m_exn); exact rfl)))
    apply m_ret
    · rfl
    · (repeat (first | apply rs_nil | (apply rs_tmp; exact rfl) | (apply rs_cell; exact rfl; (repeat (first | with_reducible exact Pk.h | with_reducible apply Pk.t)); exact rfl)))
    · exact ⟨_, rfl, rfl⟩
    · exact (by repeat (first | apply Sx.nil | apply Pk.h | apply Sx.cons | apply Pk.t))
  | node k v hi l r ihl ihr =>
    intro a n hk hs hsrt
    have hsl : Srt (toL l) := (List.pairwise_append.1 hsrt).1
    have hsr : Srt (toL r) := (List.pairwise_cons.1 (List.pairwise_append.1 hsrt).2.1).2
    simp only [sz] at hs
    refine spec_of F57.ok rfl fun gl X => ?_
    dsimp only [List.cons_append, List.nil_append]
    refine en_tree (by repeat (first | with_reducible exact Pk.h | with_reducible apply Pk.t)) ?_
    rintro b al ar rfl
    (repeat (first | ((with_reducible apply t_run); exact rfl) | ((with_reducible apply t_p); exact rfl; exact rfl) | ((with_reducible apply t_gr); exact rfl) | ((with_reducible apply t_ge); exact rfl) | ((with_reducible apply t_ld); exact rfl; exact rfl; (repeat (first | with_reducible exact Pk.h | with_reducible apply Pk.t)); exact rfl) | ((with_reducible apply t_st); exact rfl; exact rfl; exact rfl; (repeat (first | with_reducible exact Pk.h | with_reducible apply Pk.t)); exact rfl; exact rfl; exact Nat.le_of_ble_eq_true rfl; exact rfl; (repeat (first | apply rk_nil | (apply rk_skip; exact rfl) | (apply rk_ld; exact rfl; (repeat (first | with_reducible exact Pk.h | with_reducible apply Pk.t)); exact rfl)))) | ((with_reducible apply t_nx F57.k); exact rfl; exact rfl) | with_reducible apply m_seq | (with_reducible apply m_reg mix) | with_reducible apply m_block | ((with_reducible apply m_ct); exact rfl) | ((with_reducible apply m_cf); exact rfl) | ((with_reducible apply m_skn); exact rfl) | ((with_reducible apply m_exn); exact rfl)))
    refine m_cond rfl (fun hb => ?_) (fun hb => ?_)
    · have e1 : cutT key (.node k v hi l r) = even k v (cutT key l) r := by simp only [cutT]; rw [if_pos hb]
      have e2 : subN key (.node k v hi l r) n = subN key l n := by simp only [subN]; rw [if_pos hb]
      have hc := cut_ok key l hk.2.1 (by omega) hsl
      have hev := evOk_of hc.1 hk.2.2 (by have := hc.2.2.1; omega)
      rw [e1, e2]
      clear e1 e2 hc
      (repeat (first | ((with_reducible apply t_run); exact rfl) | ((with_reducible apply t_p); exact rfl; exact rfl) | ((with_reducible apply t_gr); exact rfl) | ((with_reducible apply t_ge); exact rfl) | ((with_reducible apply t_ld); exact rfl; exact rfl; (repeat (first | with_reducible exact Pk.h | with_reducible apply Pk.t)); exact rfl) | ((with_reducible apply t_st); exact rfl; exact rfl; exact rfl; (repeat (first | with_reducible exact Pk.h | with_reducible apply Pk.t)); exact rfl; exact rfl; exact Nat.le_of_ble_eq_true rfl; exact rfl; (repeat (first | apply rk_nil | (apply rk_skip; exact rfl) | (apply rk_ld; exact rfl; (repeat (first | with_reducible exact Pk.h | with_reducible apply Pk.t)); exact rfl)))) | ((with_reducible apply t_nx F57.k); exact rfl; exact rfl) | with_reducible apply m_seq | (with_reducible apply m_reg mix) | with_reducible apply m_block | ((with_reducible apply m_ct); exact rfl) | ((with_reducible apply m_cf); exact rfl) | ((with_reducible apply m_skn); exact rfl) | ((with_reducible apply m_exn); exact rfl)))
      refine t_cl rfl rfl (ihl al n hk.2.1 (by omega) hsl) (by repeat (first | apply Sx.nil | apply Pk.h | apply Sx.cons | apply Pk.t)) ?_
      rintro _ _ ⟨a', rfl, rfl⟩
      refine ⟨?_, ?_⟩ <;> (try dsimp only [List.cons_append, List.nil_append])
      · (repeat (first | apply rk_nil | (apply rk_skip; exact rfl) | (apply rk_ld; exact rfl; (repeat (first | with_reducible exact Pk.h | with_reducible apply Pk.t)); exact rfl)))
      (repeat (first | ((with_reducible apply t_run); exact rfl) | ((with_reducible apply t_p); exact rfl; exact rfl) | ((with_reducible apply t_gr); exact rfl) | ((with_reducible apply t_ge); exact rfl) | ((with_reducible apply t_ld); exact rfl; exact rfl; (repeat (first | with_reducible exact Pk.h | with_reducible apply Pk.t)); exact rfl) | ((with_reducible apply t_st); exact rfl; exact rfl; exact rfl; (repeat (first | with_reducible exact Pk.h | with_reducible apply Pk.t)); exact rfl; exact rfl; exact Nat.le_of_ble_eq_true rfl; exact rfl; (repeat (first | apply rk_nil | (apply rk_skip; exact rfl) | (apply rk_ld; exact rfl; (repeat (first | with_reducible exact Pk.h | with_reducible apply Pk.t)); exact rfl)))) | ((with_reducible apply t_nx F57.k); exact rfl; exact rfl) | with_reducible apply m_seq | (with_reducible apply m_reg mix) | with_reducible apply m_block | ((with_reducible apply m_ct); exact rfl) | ((with_reducible apply m_cf); exact rfl) | ((with_reducible apply m_skn); exact rfl) | ((with_reducible apply m_exn); exact rfl)))
      refine en_node (b := b) (l := cutT key l) (r := r) (by repeat (first | apply Sx.nil | apply Pk.h | apply Sx.cons | apply Pk.t)) ?_
      refine t_cl rfl rfl (even_spec (some ⟨b, 0, none⟩) k v _ _ _ hev) (by repeat (first | apply Sx.nil | apply Pk.h | apply Sx.cons | apply Pk.t)) ?_
      rintro _ _ ⟨a2, rfl, rfl⟩
      refine ⟨?_, ?_⟩ <;> (try dsimp only [List.cons_append, List.nil_append])
      · (repeat (first | apply rk_nil | (apply rk_skip; exact rfl) | (apply rk_ld; exact rfl; (repeat (first | with_reducible exact Pk.h | with_reducible apply Pk.t)); exact rfl)))
      (repeat (first | ((with_reducible apply t_run); exact rfl) | ((with_reducible apply t_p); exact rfl; exact rfl) | ((with_reducible apply t_gr); exact rfl) | ((with_reducible apply t_ge); exact rfl) | ((with_reducible apply t_ld); exact rfl; exact rfl; (repeat (first | with_reducible exact Pk.h | with_reducible apply Pk.t)); exact rfl) | ((with_reducible apply t_st); exact rfl; exact rfl; exact rfl; (repeat (first | with_reducible exact Pk.h | with_reducible apply Pk.t)); exact rfl; exact rfl; exact Nat.le_of_ble_eq_true rfl; exact rfl; (repeat (first | apply rk_nil | (apply rk_skip; exact rfl) | (apply rk_ld; exact rfl; (repeat (first | with_reducible exact Pk.h | with_reducible apply Pk.t)); exact rfl)))) | ((with_reducible apply t_nx F57.k); exact rfl; exact rfl) | with_reducible apply m_seq | (with_reducible apply m_reg mix) | with_reducible apply m_block | ((with_reducible apply m_ct); exact rfl) | ((with_reducible apply m_cf); exact rfl) | ((with_reducible apply m_skn); exact rfl) | ((with_reducible apply m_exn); exact rfl)))
      apply m_ret
      · rfl
      · (repeat (first | apply rs_nil | (apply rs_tmp; exact rfl) | (apply rs_cell; exact rfl; (repeat (first | with_reducible exact Pk.h | with_reducible apply Pk.t)); exact rfl)))
      · exact ⟨_, rfl, rfl⟩
      · exact (by repeat (first | apply Sx.nil | apply Pk.h | apply Sx.cons | apply Pk.t))
    · (repeat (first | ((with_reducible apply t_run); exact rfl) | ((with_reducible apply t_p); exact rfl; exact rfl) | ((with_reducible apply t_gr); exact rfl) | ((with_reducible apply t_ge); exact rfl) | ((with_reducible apply t_ld); exact rfl; exact rfl; (repeat (first | with_reducible exact Pk.h | with_reducible apply Pk.t)); exact rfl) | ((with_reducible apply t_st); exact rfl; exact rfl; exact rfl; (repeat (first | with_reducible exact Pk.h | with_reducible apply Pk.t)); exact rfl; exact rfl; exact Nat.le_of_ble_eq_true rfl; exact rfl; (repeat (first | apply rk_nil | (apply rk_skip; exact rfl) | (apply rk_ld; exact rfl; (repeat (first | with_reducible exact Pk.h | with_reducible apply Pk.t)); exact rfl)))) | ((with_reducible apply t_nx F57.k); exact rfl; exact rfl) | with_reducible apply m_seq | (with_reducible apply m_reg mix) | with_reducible apply m_block | ((with_reducible apply m_ct); exact rfl) | ((with_reducible apply m_cf); exact rfl) | ((with_reducible apply m_skn); exact rfl) | ((with_reducible apply m_exn); exact rfl)))
      refine m_cond rfl (fun hb2 => ?_) (fun hb2 => ?_)
      · have e1 : cutT key (.node k v hi l r) = even k v l (cutT key r) := by simp only [cutT]; rw [if_neg (by simp [hb]), if_pos hb2]
        have e2 : subN key (.node k v hi l r) n = subN key r n := by simp only [subN]; rw [if_neg (by simp [hb]), if_pos hb2]
        have hc := cut_ok key r hk.2.2 (by omega) hsr
        have hev := evOk_of hk.2.1 hc.1 (by have := hc.2.2.1; omega)
        rw [e1, e2]
        clear e1 e2 hc
        (repeat (first | ((with_reducible apply t_run); exact rfl) | ((with_reducible apply t_p); exact rfl; exact rfl) | ((with_reducible apply t_gr); exact rfl) | ((with_reducible apply t_ge); exact rfl) | ((with_reducible apply t_ld); exact rfl; exact rfl; (repeat (first | with_reducible exact Pk.h | with_reducible apply Pk.t)); exact rfl) | ((with_reducible apply t_st); exact rfl; exact rfl; exact rfl; (repeat (first | with_reducible exact Pk.h | with_reducible apply Pk.t)); exact rfl; exact rfl; exact Nat.le_of_ble_eq_true rfl; exact rfl; (repeat (first | apply rk_nil | (apply rk_skip; exact rfl) | (apply rk_ld; exact rfl; (repeat (first | with_reducible exact Pk.h | with_reducible apply Pk.t)); exact rfl)))) | ((with_reducible apply t_nx F57.k); exact rfl; exact rfl) | with_reducible apply m_seq | (with_reducible apply m_reg mix) | with_reducible apply m_block | ((with_reducible apply m_ct); exact rfl) | ((with_reducible apply m_cf); exact rfl) | ((with_reducible apply m_skn); exact rfl) | ((with_reducible apply m_exn); exact rfl)))
        refine t_cl rfl rfl (ihr ar n hk.2.2 (by omega) hsr) (by repeat (first | apply Sx.nil | apply Pk.h | apply Sx.cons | apply Pk.t)) ?_
        rintro _ _ ⟨a', rfl, rfl⟩
        refine ⟨?_, ?_⟩ <;> (try dsimp only [List.cons_append, List.nil_append])
        · (repeat (first | apply rk_nil | (apply rk_skip; exact rfl) | (apply rk_ld; exact rfl; (repeat (first | with_reducible exact Pk.h | with_reducible apply Pk.t)); exact rfl)))
        (repeat (first | ((with_reducible apply t_run); exact rfl) | ((with_reducible apply t_p); exact rfl; exact rfl) | ((with_reducible apply t_gr); exact rfl) | ((with_reducible apply t_ge); exact rfl) | ((with_reducible apply t_ld); exact rfl; exact rfl; (repeat (first | with_reducible exact Pk.h | with_reducible apply Pk.t)); exact rfl) | ((with_reducible apply t_st); exact rfl; exact rfl; exact rfl; (repeat (first | with_reducible exact Pk.h | with_reducible apply Pk.t)); exact rfl; exact rfl; exact Nat.le_of_ble_eq_true rfl; exact rfl; (repeat (first | apply rk_nil | (apply rk_skip; exact rfl) | (apply rk_ld; exact rfl; (repeat (first | with_reducible exact Pk.h | with_reducible apply Pk.t)); exact rfl)))) | ((with_reducible apply t_nx F57.k); exact rfl; exact rfl) | with_reducible apply m_seq | (with_reducible apply m_reg mix) | with_reducible apply m_block | ((with_reducible apply m_ct); exact rfl) | ((with_reducible apply m_cf); exact rfl) | ((with_reducible apply m_skn); exact rfl) | ((with_reducible apply m_exn); exact rfl)))
        refine en_node (b := b) (l := l) (r := cutT key r) (by repeat (first | apply Sx.nil | apply Pk.h | apply Sx.cons | apply Pk.t)) ?_
        refine t_cl rfl rfl (even_spec (some ⟨b, 0, none⟩) k v _ _ _ hev) (by repeat (first | apply Sx.nil | apply Pk.h | apply Sx.cons | apply Pk.t)) ?_
        rintro _ _ ⟨a2, rfl, rfl⟩
        refine ⟨?_, ?_⟩ <;> (try dsimp only [List.cons_append, List.nil_append])
        · (repeat (first | apply rk_nil | (apply rk_skip; exact rfl) | (apply rk_ld; exact rfl; (repeat (first | with_reducible exact Pk.h | with_reducible apply Pk.t)); exact rfl)))
        (repeat (first | ((with_reducible apply t_run); exact rfl) | ((with_reducible apply t_p); exact rfl; exact rfl) | ((with_reducible apply t_gr); exact rfl) | ((with_reducible apply t_ge); exact rfl) | ((with_reducible apply t_ld); exact rfl; exact rfl; (repeat (first | with_reducible exact Pk.h | with_reducible apply Pk.t)); exact rfl) | ((with_reducible apply t_st); exact rfl; exact rfl; exact rfl; (repeat (first | with_reducible exact Pk.h | with_reducible apply Pk.t)); exact rfl; exact rfl; exact Nat.le_of_ble_eq_true rfl; exact rfl; (repeat (first | apply rk_nil | (apply rk_skip; exact rfl) | (apply rk_ld; exact rfl; (repeat (first | with_reducible exact Pk.h | with_reducible apply Pk.t)); exact rfl)))) | ((with_reducible apply t_nx F57.k); exact rfl; exact rfl) | with_reducible apply m_seq | (with_reducible apply m_reg mix) | with_reducible apply m_block | ((with_reducible apply m_ct); exact rfl) | ((with_reducible apply m_cf); exact rfl) | ((with_reducible apply m_skn); exact rfl) | ((with_reducible apply m_exn); exact rfl)))
        apply m_ret
        · rfl
        · (repeat (first | apply rs_nil | (apply rs_tmp; exact rfl) | (apply rs_cell; exact rfl; (repeat (first | with_reducible exact Pk.h | with_reducible apply Pk.t)); exact rfl)))
        · exact ⟨_, rfl, rfl⟩
        · exact (by repeat (first | apply Sx.nil | apply Pk.h | apply Sx.cons | apply Pk.t))
      · have e2 : subN key (.node k v hi l r) n = IntKind.i64.wrap (n - 1) := by simp only [subN]; rw [if_neg (by simp [hb]), if_neg (by simp [hb2])]
        rw [e2]
        clear e2
        cases r with
        | nil =>
          have e1 : cutT key (.node k v hi l .nil) = l := by simp only [cutT]; rw [if_neg (by simp [hb]), if_neg (by simp [hb2])]
          rw [e1]
          clear e1
          refine en_nil (a := ar) (by repeat (first | with_reducible exact Pk.h | with_reducible apply Pk.t)) ?_
          rintro rfl
          (repeat (first | ((with_reducible apply t_run); exact rfl) | ((with_reducible apply t_p); exact rfl; exact rfl) | ((with_reducible apply t_gr); exact rfl) | ((with_reducible apply t_ge); exact rfl) | ((with_reducible apply t_ld); exact rfl; exact rfl; (repeat (first | with_reducible exact Pk.h | with_reducible apply Pk.t)); exact rfl) | ((with_reducible apply t_st); exact rfl; exact rfl; exact rfl; (repeat (first | with_reducible exact Pk.h | with_reducible apply Pk.t)); exact rfl; exact rfl; exact Nat.le_of_ble_eq_true rfl; exact rfl; (repeat (first | apply rk_nil | (apply rk_skip; exact rfl) | (apply rk_ld; exact rfl; (repeat (first | with_reducible exact Pk.h | with_reducible apply Pk.t)); exact rfl)))) | ((with_reducible apply t_nx F57.k); exact rfl; exact rfl) | with_reducible apply m_seq | (with_reducible apply m_reg mix) | with_reducible apply m_block | ((with_reducible apply m_ct); exact rfl) | ((with_reducible apply m_cf); exact rfl) | ((with_reducible apply m_skn); exact rfl) | ((with_reducible apply m_exn); exact rfl)))
          apply m_ret
          · rfl
          · (repeat (first | apply rs_nil | (apply rs_tmp; exact rfl) | (apply rs_cell; exact rfl; (repeat (first | with_reducible exact Pk.h | with_reducible apply Pk.t)); exact rfl)))
          · exact ⟨_, rfl, rfl⟩
          · exact (by repeat (first | apply Sx.nil | apply Pk.h | apply Sx.cons | apply Pk.t))
        | node rk rv rh rl rr =>
          have e1 : cutT key (.node k v hi l (.node rk rv rh rl rr)) = even (popK (.node rk rv rh rl rr)).1 (popK (.node rk rv rh rl rr)).2 l (popT (.node rk rv rh rl rr)) := by simp only [cutT]; rw [if_neg (by simp [hb]), if_neg (by simp [hb2])]
          have hp := pop_ok (.node rk rv rh rl rr) hk.2.2 (by omega) rfl
          have hev := evOk_of hk.2.1 hp.1 (by have := hp.2.2; omega)
          rw [e1]
          clear e1 hp
          refine en_tree (a := ar) (by repeat (first | with_reducible exact Pk.h | with_reducible apply Pk.t)) ?_
          rintro c bl br rfl
          (repeat (first | ((with_reducible apply t_run); exact rfl) | ((with_reducible apply t_p); exact rfl; exact rfl) | ((with_reducible apply t_gr); exact rfl) | ((with_reducible apply t_ge); exact rfl) | ((with_reducible apply t_ld); exact rfl; exact rfl; (repeat (first | with_reducible exact Pk.h | with_reducible apply Pk.t)); exact rfl) | ((with_reducible apply t_st); exact rfl; exact rfl; exact rfl; (repeat (first | with_reducible exact Pk.h | with_reducible apply Pk.t)); exact rfl; exact rfl; exact Nat.le_of_ble_eq_true rfl; exact rfl; (repeat (first | apply rk_nil | (apply rk_skip; exact rfl) | (apply rk_ld; exact rfl; (repeat (first | with_reducible exact Pk.h | with_reducible apply Pk.t)); exact rfl)))) | ((with_reducible apply t_nx F57.k); exact rfl; exact rfl) | with_reducible apply m_seq | (with_reducible apply m_reg mix) | with_reducible apply m_block | ((with_reducible apply m_ct); exact rfl) | ((with_reducible apply m_cf); exact rfl) | ((with_reducible apply m_skn); exact rfl) | ((with_reducible apply m_exn); exact rfl)))
          refine en_node (b := c) (k := rk) (l := rl) (r := rr) (by repeat (first | apply Sx.nil | apply Pk.h | apply Sx.cons | apply Pk.t)) ?_
          refine t_cl rfl rfl (first_spec (.node rk rv rh rl rr) (some ⟨c, 0, none⟩) hk.2.2 (by omega) rfl) (by repeat (first | apply Sx.nil | apply Pk.h | apply Sx.cons | apply Pk.t)) ?_
          rintro _ _ ⟨a', x, hi', ar', rfl, rfl⟩
          refine ⟨?_, ?_⟩ <;> (try dsimp only [List.cons_append, List.nil_append])
          · (repeat (first | apply rk_nil | (apply rk_skip; exact rfl) | (apply rk_ld; exact rfl; (repeat (first | with_reducible exact Pk.h | with_reducible apply Pk.t)); exact rfl)))
          (repeat (first | ((with_reducible apply t_run); exact rfl) | ((with_reducible apply t_p); exact rfl; exact rfl) | ((with_reducible apply t_gr); exact rfl) | ((with_reducible apply t_ge); exact rfl) | ((with_reducible apply t_ld); exact rfl; exact rfl; (repeat (first | with_reducible exact Pk.h | with_reducible apply Pk.t)); exact rfl) | ((with_reducible apply t_st); exact rfl; exact rfl; exact rfl; (repeat (first | with_reducible exact Pk.h | with_reducible apply Pk.t)); exact rfl; exact rfl; exact Nat.le_of_ble_eq_true rfl; exact rfl; (repeat (first | apply rk_nil | (apply rk_skip; exact rfl) | (apply rk_ld; exact rfl; (repeat (first | with_reducible exact Pk.h | with_reducible apply Pk.t)); exact rfl)))) | ((with_reducible apply t_nx F57.k); exact rfl; exact rfl) | with_reducible apply m_seq | (with_reducible apply m_reg mix) | with_reducible apply m_block | ((with_reducible apply m_ct); exact rfl) | ((with_reducible apply m_cf); exact rfl) | ((with_reducible apply m_skn); exact rfl) | ((with_reducible apply m_exn); exact rfl)))
          refine en_node (b := x) (k := (popK (.node rk rv rh rl rr)).1) (v := (popK (.node rk rv rh rl rr)).2) (l := l) (r := popT (.node rk rv rh rl rr)) (by repeat (first | apply Sx.nil | apply Pk.h | apply Sx.cons | apply Pk.t)) ?_
          refine t_cl rfl rfl (even_spec (some ⟨x, 0, none⟩) _ _ _ _ _ hev) (by repeat (first | apply Sx.nil | apply Pk.h | apply Sx.cons | apply Pk.t)) ?_
          rintro _ _ ⟨a2, rfl, rfl⟩
          refine ⟨?_, ?_⟩ <;> (try dsimp only [List.cons_append, List.nil_append])
          · (repeat (first | apply rk_nil | (apply rk_skip; exact rfl) | (apply rk_ld; exact rfl; (repeat (first | with_reducible exact Pk.h | with_reducible apply Pk.t)); exact rfl)))
          (repeat (first | ((with_reducible apply t_run); exact rfl) | ((with_reducible apply t_p); exact rfl; exact rfl) | ((with_reducible apply t_gr); exact rfl) | ((with_reducible apply t_ge); exact rfl) | ((with_reducible apply t_ld); exact rfl; exact rfl; (repeat (first | with_reducible exact Pk.h | with_reducible apply Pk.t)); exact rfl) | ((with_reducible apply t_st); exact rfl; exact rfl; exact rfl; (repeat (first | with_reducible exact Pk.h | with_reducible apply Pk.t)); exact rfl; exact rfl; exact Nat.le_of_ble_eq_true rfl; exact rfl; (repeat (first | apply rk_nil | (apply rk_skip; exact rfl) | (apply rk_ld; exact rfl; (repeat (first | with_reducible exact Pk.h | with_reducible apply Pk.t)); exact rfl)))) | ((with_reducible apply t_nx F57.k); exact rfl; exact rfl) | with_reducible apply m_seq | (with_reducible apply m_reg mix) | with_reducible apply m_block | ((with_reducible apply m_ct); exact rfl) | ((with_reducible apply m_cf); exact rfl) | ((with_reducible apply m_skn); exact rfl) | ((with_reducible apply m_exn); exact rfl)))
          apply m_ret
          · rfl
          · (repeat (first | apply rs_nil | (apply rs_tmp; exact rfl) | (apply rs_cell; exact rfl; (repeat (first | with_reducible exact Pk.h | with_reducible apply Pk.t)); exact rfl)))
          · exact ⟨_, rfl, rfl⟩
          · exact (by repeat (first | apply Sx.nil | apply Pk.h | apply Sx.cons | apply Pk.t))
end Go.Proofs.Ythcbefkgfhokoaa

/- The map: keys of a range; new ones; cut. -/
namespace Go.Proofs.Ythcbefkgfhokoaa
open Go Go.Dv
set_option maxRecDepth 100000
attribute [local irreducible] HTh HM En Fsp TrA Cl MpA OwS

theorem sl79 : slI Try.prog 79 = some (9, 1, 16, [.string ⟨#[]⟩]) := by kernel_rfl
def emp : ByteArray := ⟨#[]⟩
def inR (from_ to_ : ByteArray) (x : ByteArray) : Bool := !slt x from_ && (decide (to_ = emp) || slt x to_)
def rngT (from_ to_ : ByteArray) (t : Tr Ow) : List ByteArray := ((toL t).map (·.1)).filter (inR from_ to_)
def strs (l : List ByteArray) : List Value := l.map Value.string
theorem strs_app (l r : List ByteArray) : strs (l ++ r) = strs l ++ strs r := List.map_append ..

theorem rng_node {f o k : ByteArray} {v : Ow} {hi : Int} {l r : Tr Ow} : rngT f o (.node k v hi l r) = rngT f o l ++ (if inR f o k then [k] else []) ++ rngT f o r := by
  simp only [rngT, toL, List.map_append, List.map_cons, List.filter_append, List.filter_cons]
  split <;> simp
theorem rng_left {f o k : ByteArray} {l : Tr Ow} (h : slt f k = false) (hl : ∀ y ∈ toL l, slt y.1 k = true) : rngT f o l = [] := by
  simp only [rngT, List.filter_eq_nil_iff, List.mem_map]
  rintro x ⟨y, hy, rfl⟩
  have : slt y.1 f = true := by
    rcases slt_tri f k with h1 | h1 | h1
    · rw [h] at h1; cases h1
    · rw [h1]; exact hl y hy
    · exact slt_trans (hl y hy) h1
  simp [inR, this]
theorem rng_right {f o k : ByteArray} {r : Tr Ow} (h1 : o ≠ emp) (h2 : slt k o = false) (hr : ∀ y ∈ toL r, slt k y.1 = true) : rngT f o r = [] := by
  simp only [rngT, List.filter_eq_nil_iff, List.mem_map]
  rintro x ⟨y, hy, rfl⟩
  have : slt y.1 o = false := by
    cases h3 : slt y.1 o with
    | false => rfl
    | true => rw [slt_trans (hr y hy) h3] at h2; cases h2
  simp [inR, this, h1]
theorem rng_len {f o : ByteArray} {t : Tr Ow} : (rngT f o t).length ≤ sz t := by
  rw [sz_len, rngT]; exact Nat.le_trans (List.length_filter_le _ _) (by simp)

theorem not_max {l : Nat} (h : l < 2199023255552) : decide ((9223372036854775807 : Int) ≤ (l : Int)) = false := by
  rw [decide_eq_false_iff_not]; omega
theorem lt_max {l : Nat} (h : l < 2199023255552) : decide ((l : Int) < (9223372036854775807 : Int)) = true := by
  rw [decide_eq_true_iff]; omega

set_option maxHeartbeats 2000000 in
theorem keys_spec (f o : ByteArray) : ∀ (t : Tr Ow) (a : Option Addr) (sa : Option Addr) (sc : Nat) (ks : List ByteArray), Srt (toL t) → ks.length + sz t < 1099511627776 →
    Fsp Try.prog 52 [.pointer a, .slice sa ks.length sc, .string f, .string o, .int .i64 9223372036854775807] [TrA a t, OwS 9 1 (.slice sa ks.length sc) ks.length (strs ks)]
      fun u aa' => ∃ sa' sc', u = .slice sa' (ks ++ rngT f o t).length sc' ∧ aa' = [TrA a t, OwS 9 1 (.slice sa' (ks ++ rngT f o t).length sc') (ks ++ rngT f o t).length (strs (ks ++ rngT f o t))] := by
  intro t
  induction t with
  | nil =>
    intro a sa sc ks _ _
    have e1 : rngT f o .nil = [] := rfl
    rw [e1, List.append_nil]
    refine spec_of F52.ok rfl fun gl X => ?_
    dsimp only [List.cons_append, List.nil_append]
    refine en_nil (by repeat (first | with_reducible exact Pk.h | with_reducible apply Pk.t)) ?_
    rintro rfl
    (repeat (first | ((with_reducible apply t_run); exact rfl) | ((with_reducible apply t_p); exact rfl; exact rfl) | ((with_reducible apply t_gr); exact rfl) | ((with_reducible apply t_ge); exact rfl) | ((with_reducible apply t_ld); exact rfl; exact rfl; (repeat (first | with_reducible exact Pk.h | with_reducible apply Pk.t)); exact rfl) | ((with_reducible apply t_st); exact rfl; exact rfl; exact rfl; (repeat (first | with_reducible exact Pk.h | with_reducible apply Pk.t)); exact rfl; exact rfl; exact Nat.le_of_ble_eq_true rfl; exact rfl; (repeat (first | apply rk_nil | (apply rk_skip; exact rfl) | (apply rk_ld; exact rfl; (repeat (first | with_reducible exact Pk.h | with_reducible apply Pk.t)); exact rfl)))) | ((with_reducible apply t_nx F52.k); exact rfl; exact rfl) | with_reducible apply m_seq | (with_reducible apply m_reg mix) | with_reducible apply m_block | ((with_reducible apply m_ct); exact rfl) | ((with_reducible apply m_cf); exact rfl) | ((with_reducible apply m_skn); exact rfl) | ((with_reducible apply m_exn); exact rfl)))
    apply m_ret
    · rfl
    · (repeat (first | apply rs_nil | (apply rs_tmp; exact rfl) | (apply rs_cell; exact rfl; (repeat (first | with_reducible exact Pk.h | with_reducible apply Pk.t)); exact rfl)))
    · exact ⟨_, _, rfl, rfl⟩
    · exact (by repeat (first | apply Sx.nil | apply Pk.h | apply Sx.cons | apply Pk.t))
  | node k v hi l r ihl ihr =>
    intro a sa sc ks hsrt hsz
    have hsl : Srt (toL l) := (List.pairwise_append.1 hsrt).1
    have hsr : Srt (toL r) := (List.pairwise_cons.1 (List.pairwise_append.1 hsrt).2.1).2
    have hxr : ∀ y ∈ toL r, slt k y.1 = true := (List.pairwise_cons.1 (List.pairwise_append.1 hsrt).2.1).1
    have hlx : ∀ y ∈ toL l, slt y.1 k = true := fun y hy => (List.pairwise_append.1 hsrt).2.2 y hy (k, v) (by simp)
    simp only [sz] at hsz
    rw [rng_node]
    refine spec_of F52.ok rfl fun gl X => ?_
    dsimp only [List.cons_append, List.nil_append]
    refine en_tree (by repeat (first | with_reducible exact Pk.h | with_reducible apply Pk.t)) ?_
    rintro b al ar rfl
    (repeat (first | ((with_reducible apply t_run); exact rfl) | ((with_reducible apply t_p); exact rfl; exact rfl) | ((with_reducible apply t_gr); exact rfl) | ((with_reducible apply t_ge); exact rfl) | ((with_reducible apply t_ld); exact rfl; exact rfl; (repeat (first | with_reducible exact Pk.h | with_reducible apply Pk.t)); exact rfl) | ((with_reducible apply t_st); exact rfl; exact rfl; exact rfl; (repeat (first | with_reducible exact Pk.h | with_reducible apply Pk.t)); exact rfl; exact rfl; exact Nat.le_of_ble_eq_true rfl; exact rfl; (repeat (first | apply rk_nil | (apply rk_skip; exact rfl) | (apply rk_ld; exact rfl; (repeat (first | with_reducible exact Pk.h | with_reducible apply Pk.t)); exact rfl)))) | ((with_reducible apply t_nx F52.k); exact rfl; exact rfl) | with_reducible apply m_seq | (with_reducible apply m_reg mix) | with_reducible apply m_block | ((with_reducible apply m_ct); exact rfl) | ((with_reducible apply m_cf); exact rfl) | ((with_reducible apply m_skn); exact rfl) | ((with_reducible apply m_exn); exact rfl)))
    refine m_cond rfl (fun h1 => ?_) (fun h1 => ?_)
    · have := not_max (l := ks.length) (by omega)
      rw [this] at h1; cases h1
    clear h1
    refine m_skn rfl ?_
    let E : List ByteArray → Option Addr × Nat → Env := fun ks z => [(0, .pointer (some ⟨b, 0, none⟩)), (1, .slice z.1 ks.length z.2), (2, .string f), (3, .string o), (4, .int .i64 9223372036854775807)]
    let A : List ByteArray → Option Addr × Nat → List HP := fun ks z => [OwS 9 1 (.slice z.1 ks.length z.2) ks.length (strs ks), Cl b 92 (nodeCells k v hi al ar), TrA al l, TrA ar r, X]
    refine m_cut (α := Option Addr × Nat) (E (ks ++ rngT f o l)) (A (ks ++ rngT f o l)) (fun _ => True) ?_ ?_
    · (repeat (first | ((with_reducible apply t_run); exact rfl) | ((with_reducible apply t_p); exact rfl; exact rfl) | ((with_reducible apply t_gr); exact rfl) | ((with_reducible apply t_ge); exact rfl) | ((with_reducible apply t_ld); exact rfl; exact rfl; (repeat (first | with_reducible exact Pk.h | with_reducible apply Pk.t)); exact rfl) | ((with_reducible apply t_st); exact rfl; exact rfl; exact rfl; (repeat (first | with_reducible exact Pk.h | with_reducible apply Pk.t)); exact rfl; exact rfl; exact Nat.le_of_ble_eq_true rfl; exact rfl; (repeat (first | apply rk_nil | (apply rk_skip; exact rfl) | (apply rk_ld; exact rfl; (repeat (first | with_reducible exact Pk.h | with_reducible apply Pk.t)); exact rfl)))) | ((with_reducible apply t_nx F52.k); exact rfl; exact rfl) | with_reducible apply m_seq | (with_reducible apply m_reg mix) | with_reducible apply m_block | ((with_reducible apply m_ct); exact rfl) | ((with_reducible apply m_cf); exact rfl) | ((with_reducible apply m_skn); exact rfl) | ((with_reducible apply m_exn); exact rfl)))
      refine m_cond rfl (fun h1 => ?_) (fun h1 => ?_)
      · (repeat (first | ((with_reducible apply t_run); exact rfl) | ((with_reducible apply t_p); exact rfl; exact rfl) | ((with_reducible apply t_gr); exact rfl) | ((with_reducible apply t_ge); exact rfl) | ((with_reducible apply t_ld); exact rfl; exact rfl; (repeat (first | with_reducible exact Pk.h | with_reducible apply Pk.t)); exact rfl) | ((with_reducible apply t_st); exact rfl; exact rfl; exact rfl; (repeat (first | with_reducible exact Pk.h | with_reducible apply Pk.t)); exact rfl; exact rfl; exact Nat.le_of_ble_eq_true rfl; exact rfl; (repeat (first | apply rk_nil | (apply rk_skip; exact rfl) | (apply rk_ld; exact rfl; (repeat (first | with_reducible exact Pk.h | with_reducible apply Pk.t)); exact rfl)))) | ((with_reducible apply t_nx F52.k); exact rfl; exact rfl) | with_reducible apply m_seq | (with_reducible apply m_reg mix) | with_reducible apply m_block | ((with_reducible apply m_ct); exact rfl) | ((with_reducible apply m_cf); exact rfl) | ((with_reducible apply m_skn); exact rfl) | ((with_reducible apply m_exn); exact rfl)))
        refine t_cl rfl rfl (ihl al sa sc ks hsl (by omega)) (by repeat (first | apply Sx.nil | apply Pk.h | apply Sx.cons | apply Pk.t)) ?_
        rintro _ _ ⟨sa1, sc1, rfl, rfl⟩
        refine ⟨?_, ?_⟩ <;> (try dsimp only [List.cons_append, List.nil_append])
        · (repeat (first | apply rk_nil | (apply rk_skip; exact rfl) | (apply rk_ld; exact rfl; (repeat (first | with_reducible exact Pk.h | with_reducible apply Pk.t)); exact rfl)))
        (repeat (first | ((with_reducible apply t_run); exact rfl) | ((with_reducible apply t_p); exact rfl; exact rfl) | ((with_reducible apply t_gr); exact rfl) | ((with_reducible apply t_ge); exact rfl) | ((with_reducible apply t_ld); exact rfl; exact rfl; (repeat (first | with_reducible exact Pk.h | with_reducible apply Pk.t)); exact rfl) | ((with_reducible apply t_st); exact rfl; exact rfl; exact rfl; (repeat (first | with_reducible exact Pk.h | with_reducible apply Pk.t)); exact rfl; exact rfl; exact Nat.le_of_ble_eq_true rfl; exact rfl; (repeat (first | apply rk_nil | (apply rk_skip; exact rfl) | (apply rk_ld; exact rfl; (repeat (first | with_reducible exact Pk.h | with_reducible apply Pk.t)); exact rfl)))) | ((with_reducible apply t_nx F52.k); exact rfl; exact rfl) | with_reducible apply m_seq | (with_reducible apply m_reg mix) | with_reducible apply m_block | ((with_reducible apply m_ct); exact rfl) | ((with_reducible apply m_cf); exact rfl) | ((with_reducible apply m_skn); exact rfl) | ((with_reducible apply m_exn); exact rfl)))
        refine t_meet rfl (sa1, sc1) trivial [0, 1, 2, 3, 4] rfl (by repeat (first | apply Sx.nil | apply Pk.h | apply Sx.cons | apply Pk.t))
      · have e1 : rngT f o l = [] := rng_left h1 hlx
        refine m_meet rfl (sa, sc) trivial [0, 1, 2, 3, 4] (by rw [e1, List.append_nil]; rfl) (by rw [e1, List.append_nil]; exact (by repeat (first | apply Sx.nil | apply Pk.h | apply Sx.cons | apply Pk.t)))
    rintro ⟨sa1, sc1⟩ _
    have hl1 : (ks ++ rngT f o l).length ≤ ks.length + sz l := by have := rng_len (f := f) (o := o) (t := l); simp; omega
    rw [← List.append_assoc, ← List.append_assoc]
    generalize ks ++ rngT f o l = ks1 at hl1 ⊢
    refine m_cut (α := Option Addr × Nat) (E (ks1 ++ if inR f o k then [k] else [])) (A (ks1 ++ if inR f o k then [k] else [])) (fun _ => True) ?_ ?_
    · refine m_cut (α := Bool) (fun z => (58, .bool z) :: E ks1 (sa1, sc1)) (fun _ => A ks1 (sa1, sc1)) (fun z => z = inR f o k) ?_ ?_
      · simp only [E, A]
        (repeat (first | ((with_reducible apply t_run); exact rfl) | ((with_reducible apply t_p); exact rfl; exact rfl) | ((with_reducible apply t_gr); exact rfl) | ((with_reducible apply t_ge); exact rfl) | ((with_reducible apply t_ld); exact rfl; exact rfl; (repeat (first | with_reducible exact Pk.h | with_reducible apply Pk.t)); exact rfl) | ((with_reducible apply t_st); exact rfl; exact rfl; exact rfl; (repeat (first | with_reducible exact Pk.h | with_reducible apply Pk.t)); exact rfl; exact rfl; exact Nat.le_of_ble_eq_true rfl; exact rfl; (repeat (first | apply rk_nil | (apply rk_skip; exact rfl) | (apply rk_ld; exact rfl; (repeat (first | with_reducible exact Pk.h | with_reducible apply Pk.t)); exact rfl)))) | ((with_reducible apply t_nx F52.k); exact rfl; exact rfl) | with_reducible apply m_seq | (with_reducible apply m_reg mix) | with_reducible apply m_block | ((with_reducible apply m_ct); exact rfl) | ((with_reducible apply m_cf); exact rfl) | ((with_reducible apply m_skn); exact rfl) | ((with_reducible apply m_exn); exact rfl)))
        refine t_spl 41 rfl (fun q1 => ?_) (fun q1 => ?_)
        · (repeat (first | ((with_reducible apply t_run); exact rfl) | ((with_reducible apply t_p); exact rfl; exact rfl) | ((with_reducible apply t_gr); exact rfl) | ((with_reducible apply t_ge); exact rfl) | ((with_reducible apply t_ld); exact rfl; exact rfl; (repeat (first | with_reducible exact Pk.h | with_reducible apply Pk.t)); exact rfl) | ((with_reducible apply t_st); exact rfl; exact rfl; exact rfl; (repeat (first | with_reducible exact Pk.h | with_reducible apply Pk.t)); exact rfl; exact rfl; exact Nat.le_of_ble_eq_true rfl; exact rfl; (repeat (first | apply rk_nil | (apply rk_skip; exact rfl) | (apply rk_ld; exact rfl; (repeat (first | with_reducible exact Pk.h | with_reducible apply Pk.t)); exact rfl)))) | ((with_reducible apply t_nx F52.k); exact rfl; exact rfl) | with_reducible apply m_seq | (with_reducible apply m_reg mix) | with_reducible apply m_block | ((with_reducible apply m_ct); exact rfl) | ((with_reducible apply m_cf); exact rfl) | ((with_reducible apply m_skn); exact rfl) | ((with_reducible apply m_exn); exact rfl)))
          refine t_spl 44 rfl (fun q2 => ?_) (fun q2 => ?_)
          · (repeat (first | ((with_reducible apply t_run); exact rfl) | ((with_reducible apply t_p); exact rfl; exact rfl) | ((with_reducible apply t_gr); exact rfl) | ((with_reducible apply t_ge); exact rfl) | ((with_reducible apply t_ld); exact rfl; exact rfl; (repeat (first | with_reducible exact Pk.h | with_reducible apply Pk.t)); exact rfl) | ((with_reducible apply t_st); exact rfl; exact rfl; exact rfl; (repeat (first | with_reducible exact Pk.h | with_reducible apply Pk.t)); exact rfl; exact rfl; exact Nat.le_of_ble_eq_true rfl; exact rfl; (repeat (first | apply rk_nil | (apply rk_skip; exact rfl) | (apply rk_ld; exact rfl; (repeat (first | with_reducible exact Pk.h | with_reducible apply Pk.t)); exact rfl)))) | ((with_reducible apply t_nx F52.k); exact rfl; exact rfl) | with_reducible apply m_seq | (with_reducible apply m_reg mix) | with_reducible apply m_block | ((with_reducible apply m_ct); exact rfl) | ((with_reducible apply m_cf); exact rfl) | ((with_reducible apply m_skn); exact rfl) | ((with_reducible apply m_exn); exact rfl)))
            refine t_meet rfl (decide ((ks1.length : Int) < 9223372036854775807)) ?_ [58, 0, 1, 2, 3, 4] rfl (by repeat (first | apply Sx.nil | apply Pk.h | apply Sx.cons | apply Pk.t))
            rw [lt_max (by omega)]
            have q2' : o = emp := of_decide_eq_true q2
            simp [inR, q1, q2']
          · (repeat (first | ((with_reducible apply t_run); exact rfl) | ((with_reducible apply t_p); exact rfl; exact rfl) | ((with_reducible apply t_gr); exact rfl) | ((with_reducible apply t_ge); exact rfl) | ((with_reducible apply t_ld); exact rfl; exact rfl; (repeat (first | with_reducible exact Pk.h | with_reducible apply Pk.t)); exact rfl) | ((with_reducible apply t_st); exact rfl; exact rfl; exact rfl; (repeat (first | with_reducible exact Pk.h | with_reducible apply Pk.t)); exact rfl; exact rfl; exact Nat.le_of_ble_eq_true rfl; exact rfl; (repeat (first | apply rk_nil | (apply rk_skip; exact rfl) | (apply rk_ld; exact rfl; (repeat (first | with_reducible exact Pk.h | with_reducible apply Pk.t)); exact rfl)))) | ((with_reducible apply t_nx F52.k); exact rfl; exact rfl) | with_reducible apply m_seq | (with_reducible apply m_reg mix) | with_reducible apply m_block | ((with_reducible apply m_ct); exact rfl) | ((with_reducible apply m_cf); exact rfl) | ((with_reducible apply m_skn); exact rfl) | ((with_reducible apply m_exn); exact rfl)))
            have q2' : o ≠ emp := of_decide_eq_false q2
            refine t_spl 53 rfl (fun q3 => ?_) (fun q3 => ?_)
            · (repeat (first | ((with_reducible apply t_run); exact rfl) | ((with_reducible apply t_p); exact rfl; exact rfl) | ((with_reducible apply t_gr); exact rfl) | ((with_reducible apply t_ge); exact rfl) | ((with_reducible apply t_ld); exact rfl; exact rfl; (repeat (first | with_reducible exact Pk.h | with_reducible apply Pk.t)); exact rfl) | ((with_reducible apply t_st); exact rfl; exact rfl; exact rfl; (repeat (first | with_reducible exact Pk.h | with_reducible apply Pk.t)); exact rfl; exact rfl; exact Nat.le_of_ble_eq_true rfl; exact rfl; (repeat (first | apply rk_nil | (apply rk_skip; exact rfl) | (apply rk_ld; exact rfl; (repeat (first | with_reducible exact Pk.h | with_reducible apply Pk.t)); exact rfl)))) | ((with_reducible apply t_nx F52.k); exact rfl; exact rfl) | with_reducible apply m_seq | (with_reducible apply m_reg mix) | with_reducible apply m_block | ((with_reducible apply m_ct); exact rfl) | ((with_reducible apply m_cf); exact rfl) | ((with_reducible apply m_skn); exact rfl) | ((with_reducible apply m_exn); exact rfl)))
              refine t_meet rfl (decide ((ks1.length : Int) < 9223372036854775807)) ?_ [58, 0, 1, 2, 3, 4] rfl (by repeat (first | apply Sx.nil | apply Pk.h | apply Sx.cons | apply Pk.t))
              rw [lt_max (by omega)]
              simp [inR, q1, q3]
            · (repeat (first | ((with_reducible apply t_run); exact rfl) | ((with_reducible apply t_p); exact rfl; exact rfl) | ((with_reducible apply t_gr); exact rfl) | ((with_reducible apply t_ge); exact rfl) | ((with_reducible apply t_ld); exact rfl; exact rfl; (repeat (first | with_reducible exact Pk.h | with_reducible apply Pk.t)); exact rfl) | ((with_reducible apply t_st); exact rfl; exact rfl; exact rfl; (repeat (first | with_reducible exact Pk.h | with_reducible apply Pk.t)); exact rfl; exact rfl; exact Nat.le_of_ble_eq_true rfl; exact rfl; (repeat (first | apply rk_nil | (apply rk_skip; exact rfl) | (apply rk_ld; exact rfl; (repeat (first | with_reducible exact Pk.h | with_reducible apply Pk.t)); exact rfl)))) | ((with_reducible apply t_nx F52.k); exact rfl; exact rfl) | with_reducible apply m_seq | (with_reducible apply m_reg mix) | with_reducible apply m_block | ((with_reducible apply m_ct); exact rfl) | ((with_reducible apply m_cf); exact rfl) | ((with_reducible apply m_skn); exact rfl) | ((with_reducible apply m_exn); exact rfl)))
              refine t_meet rfl false ?_ [58, 0, 1, 2, 3, 4] rfl (by repeat (first | apply Sx.nil | apply Pk.h | apply Sx.cons | apply Pk.t))
              simp [inR, q2', q3]
        · (repeat (first | ((with_reducible apply t_run); exact rfl) | ((with_reducible apply t_p); exact rfl; exact rfl) | ((with_reducible apply t_gr); exact rfl) | ((with_reducible apply t_ge); exact rfl) | ((with_reducible apply t_ld); exact rfl; exact rfl; (repeat (first | with_reducible exact Pk.h | with_reducible apply Pk.t)); exact rfl) | ((with_reducible apply t_st); exact rfl; exact rfl; exact rfl; (repeat (first | with_reducible exact Pk.h | with_reducible apply Pk.t)); exact rfl; exact rfl; exact Nat.le_of_ble_eq_true rfl; exact rfl; (repeat (first | apply rk_nil | (apply rk_skip; exact rfl) | (apply rk_ld; exact rfl; (repeat (first | with_reducible exact Pk.h | with_reducible apply Pk.t)); exact rfl)))) | ((with_reducible apply t_nx F52.k); exact rfl; exact rfl) | with_reducible apply m_seq | (with_reducible apply m_reg mix) | with_reducible apply m_block | ((with_reducible apply m_ct); exact rfl) | ((with_reducible apply m_cf); exact rfl) | ((with_reducible apply m_skn); exact rfl) | ((with_reducible apply m_exn); exact rfl)))
          refine t_meet rfl false ?_ [58, 0, 1, 2, 3, 4] rfl (by repeat (first | apply Sx.nil | apply Pk.h | apply Sx.cons | apply Pk.t))
          simp [inR, q1]
      · rintro z rfl
        simp only [E, A]
        refine m_cond rfl (fun q => ?_) (fun q => ?_)
        · rw [if_pos q]
          (repeat (first | ((with_reducible apply t_run); exact rfl) | ((with_reducible apply t_p); exact rfl; exact rfl) | ((with_reducible apply t_gr); exact rfl) | ((with_reducible apply t_ge); exact rfl) | ((with_reducible apply t_ld); exact rfl; exact rfl; (repeat (first | with_reducible exact Pk.h | with_reducible apply Pk.t)); exact rfl) | ((with_reducible apply t_st); exact rfl; exact rfl; exact rfl; (repeat (first | with_reducible exact Pk.h | with_reducible apply Pk.t)); exact rfl; exact rfl; exact Nat.le_of_ble_eq_true rfl; exact rfl; (repeat (first | apply rk_nil | (apply rk_skip; exact rfl) | (apply rk_ld; exact rfl; (repeat (first | with_reducible exact Pk.h | with_reducible apply Pk.t)); exact rfl)))) | ((with_reducible apply t_nx F52.k); exact rfl; exact rfl) | with_reducible apply m_seq | (with_reducible apply m_reg mix) | with_reducible apply m_block | ((with_reducible apply m_ct); exact rfl) | ((with_reducible apply m_cf); exact rfl) | ((with_reducible apply m_skn); exact rfl) | ((with_reducible apply m_exn); exact rfl)))
          refine t_bsl sl79 rfl rfl rfl rfl rfl rfl rfl rfl fun bk => ⟨(by (repeat (first | apply rk_nil | (apply rk_skip; exact rfl) | (apply rk_ld; exact rfl; (repeat (first | with_reducible exact Pk.h | with_reducible apply Pk.t)); exact rfl)))), ?_⟩
          try dsimp only [List.cons_append, List.nil_append]
          refine t_app sl79 rfl rfl rfl (by repeat (first | with_reducible exact Pk.h | with_reducible apply Pk.t)) (by repeat (first | with_reducible exact Pk.h | with_reducible apply Pk.t)) rfl (by decide) (by decide) rfl rfl rfl (by omega) (by omega) fun v' => ⟨(by (repeat (first | apply rk_nil | (apply rk_skip; exact rfl) | (apply rk_ld; exact rfl; (repeat (first | with_reducible exact Pk.h | with_reducible apply Pk.t)); exact rfl)))), ?_⟩
          try dsimp only [List.cons_append, List.nil_append]
          refine en_x (x := OwS 9 1 v' (ks1.length + 1) _) (OwS 9 1 v' (ks1 ++ [k]).length (strs (ks1 ++ [k]))) (by repeat (first | with_reducible exact Pk.h | with_reducible apply Pk.t)) (by rw [strs_app, List.length_append]; rfl) ?_
          refine en_ows (v := v') (by repeat (first | with_reducible exact Pk.h | with_reducible apply Pk.t)) ?_
          rintro sa2 sc2 rfl
          (repeat (first | ((with_reducible apply t_run); exact rfl) | ((with_reducible apply t_p); exact rfl; exact rfl) | ((with_reducible apply t_gr); exact rfl) | ((with_reducible apply t_ge); exact rfl) | ((with_reducible apply t_ld); exact rfl; exact rfl; (repeat (first | with_reducible exact Pk.h | with_reducible apply Pk.t)); exact rfl) | ((with_reducible apply t_st); exact rfl; exact rfl; exact rfl; (repeat (first | with_reducible exact Pk.h | with_reducible apply Pk.t)); exact rfl; exact rfl; exact Nat.le_of_ble_eq_true rfl; exact rfl; (repeat (first | apply rk_nil | (apply rk_skip; exact rfl) | (apply rk_ld; exact rfl; (repeat (first | with_reducible exact Pk.h | with_reducible apply Pk.t)); exact rfl)))) | ((with_reducible apply t_nx F52.k); exact rfl; exact rfl) | with_reducible apply m_seq | (with_reducible apply m_reg mix) | with_reducible apply m_block | ((with_reducible apply m_ct); exact rfl) | ((with_reducible apply m_cf); exact rfl) | ((with_reducible apply m_skn); exact rfl) | ((with_reducible apply m_exn); exact rfl)))
          refine t_meet rfl (sa2, sc2) trivial [0, 1, 2, 3, 4] rfl (by repeat (first | apply Sx.nil | apply Pk.h | apply Sx.cons | apply Pk.t))
        · rw [if_neg (by simp [q]), List.append_nil]
          refine m_meet rfl (sa1, sc1) trivial [0, 1, 2, 3, 4] rfl (by repeat (first | apply Sx.nil | apply Pk.h | apply Sx.cons | apply Pk.t))
    rintro ⟨sa2, sc2⟩ _
    have hl2 : (ks1 ++ if inR f o k then [k] else []).length ≤ ks.length + sz l + 1 := by
      rw [List.length_append]; split <;> simp <;> omega
    generalize ks1 ++ (if inR f o k then [k] else []) = ks2 at hl2 ⊢
    refine m_cut (α := Option Addr × Nat) (E (ks2 ++ rngT f o r)) (A (ks2 ++ rngT f o r)) (fun _ => True) ?_ ?_
    · simp only [E, A]
      (repeat (first | ((with_reducible apply t_run); exact rfl) | ((with_reducible apply t_p); exact rfl; exact rfl) | ((with_reducible apply t_gr); exact rfl) | ((with_reducible apply t_ge); exact rfl) | ((with_reducible apply t_ld); exact rfl; exact rfl; (repeat (first | with_reducible exact Pk.h | with_reducible apply Pk.t)); exact rfl) | ((with_reducible apply t_st); exact rfl; exact rfl; exact rfl; (repeat (first | with_reducible exact Pk.h | with_reducible apply Pk.t)); exact rfl; exact rfl; exact Nat.le_of_ble_eq_true rfl; exact rfl; (repeat (first | apply rk_nil | (apply rk_skip; exact rfl) | (apply rk_ld; exact rfl; (repeat (first | with_reducible exact Pk.h | with_reducible apply Pk.t)); exact rfl)))) | ((with_reducible apply t_nx F52.k); exact rfl; exact rfl) | with_reducible apply m_seq | (with_reducible apply m_reg mix) | with_reducible apply m_block | ((with_reducible apply m_ct); exact rfl) | ((with_reducible apply m_cf); exact rfl) | ((with_reducible apply m_skn); exact rfl) | ((with_reducible apply m_exn); exact rfl)))
      refine t_spl 68 rfl (fun q1 => ?_) (fun q1 => ?_)
      · (repeat (first | ((with_reducible apply t_run); exact rfl) | ((with_reducible apply t_p); exact rfl; exact rfl) | ((with_reducible apply t_gr); exact rfl) | ((with_reducible apply t_ge); exact rfl) | ((with_reducible apply t_ld); exact rfl; exact rfl; (repeat (first | with_reducible exact Pk.h | with_reducible apply Pk.t)); exact rfl) | ((with_reducible apply t_st); exact rfl; exact rfl; exact rfl; (repeat (first | with_reducible exact Pk.h | with_reducible apply Pk.t)); exact rfl; exact rfl; exact Nat.le_of_ble_eq_true rfl; exact rfl; (repeat (first | apply rk_nil | (apply rk_skip; exact rfl) | (apply rk_ld; exact rfl; (repeat (first | with_reducible exact Pk.h | with_reducible apply Pk.t)); exact rfl)))) | ((with_reducible apply t_nx F52.k); exact rfl; exact rfl) | with_reducible apply m_seq | (with_reducible apply m_reg mix) | with_reducible apply m_block | ((with_reducible apply m_ct); exact rfl) | ((with_reducible apply m_cf); exact rfl) | ((with_reducible apply m_skn); exact rfl) | ((with_reducible apply m_exn); exact rfl)))
        refine t_cl rfl rfl (ihr ar sa2 sc2 ks2 hsr (by omega)) (by repeat (first | apply Sx.nil | apply Pk.h | apply Sx.cons | apply Pk.t)) ?_
        rintro _ _ ⟨sa3, sc3, rfl, rfl⟩
        refine ⟨?_, ?_⟩ <;> (try dsimp only [List.cons_append, List.nil_append])
        · (repeat (first | apply rk_nil | (apply rk_skip; exact rfl) | (apply rk_ld; exact rfl; (repeat (first | with_reducible exact Pk.h | with_reducible apply Pk.t)); exact rfl)))
        (repeat (first | ((with_reducible apply t_run); exact rfl) | ((with_reducible apply t_p); exact rfl; exact rfl) | ((with_reducible apply t_gr); exact rfl) | ((with_reducible apply t_ge); exact rfl) | ((with_reducible apply t_ld); exact rfl; exact rfl; (repeat (first | with_reducible exact Pk.h | with_reducible apply Pk.t)); exact rfl) | ((with_reducible apply t_st); exact rfl; exact rfl; exact rfl; (repeat (first | with_reducible exact Pk.h | with_reducible apply Pk.t)); exact rfl; exact rfl; exact Nat.le_of_ble_eq_true rfl; exact rfl; (repeat (first | apply rk_nil | (apply rk_skip; exact rfl) | (apply rk_ld; exact rfl; (repeat (first | with_reducible exact Pk.h | with_reducible apply Pk.t)); exact rfl)))) | ((with_reducible apply t_nx F52.k); exact rfl; exact rfl) | with_reducible apply m_seq | (with_reducible apply m_reg mix) | with_reducible apply m_block | ((with_reducible apply m_ct); exact rfl) | ((with_reducible apply m_cf); exact rfl) | ((with_reducible apply m_skn); exact rfl) | ((with_reducible apply m_exn); exact rfl)))
        refine t_meet rfl (sa3, sc3) trivial [0, 1, 2, 3, 4] rfl (by repeat (first | apply Sx.nil | apply Pk.h | apply Sx.cons | apply Pk.t))
      · (repeat (first | ((with_reducible apply t_run); exact rfl) | ((with_reducible apply t_p); exact rfl; exact rfl) | ((with_reducible apply t_gr); exact rfl) | ((with_reducible apply t_ge); exact rfl) | ((with_reducible apply t_ld); exact rfl; exact rfl; (repeat (first | with_reducible exact Pk.h | with_reducible apply Pk.t)); exact rfl) | ((with_reducible apply t_st); exact rfl; exact rfl; exact rfl; (repeat (first | with_reducible exact Pk.h | with_reducible apply Pk.t)); exact rfl; exact rfl; exact Nat.le_of_ble_eq_true rfl; exact rfl; (repeat (first | apply rk_nil | (apply rk_skip; exact rfl) | (apply rk_ld; exact rfl; (repeat (first | with_reducible exact Pk.h | with_reducible apply Pk.t)); exact rfl)))) | ((with_reducible apply t_nx F52.k); exact rfl; exact rfl) | with_reducible apply m_seq | (with_reducible apply m_reg mix) | with_reducible apply m_block | ((with_reducible apply m_ct); exact rfl) | ((with_reducible apply m_cf); exact rfl) | ((with_reducible apply m_skn); exact rfl) | ((with_reducible apply m_exn); exact rfl)))
        refine m_cond rfl (fun q2 => ?_) (fun q2 => ?_)
        · (repeat (first | ((with_reducible apply t_run); exact rfl) | ((with_reducible apply t_p); exact rfl; exact rfl) | ((with_reducible apply t_gr); exact rfl) | ((with_reducible apply t_ge); exact rfl) | ((with_reducible apply t_ld); exact rfl; exact rfl; (repeat (first | with_reducible exact Pk.h | with_reducible apply Pk.t)); exact rfl) | ((with_reducible apply t_st); exact rfl; exact rfl; exact rfl; (repeat (first | with_reducible exact Pk.h | with_reducible apply Pk.t)); exact rfl; exact rfl; exact Nat.le_of_ble_eq_true rfl; exact rfl; (repeat (first | apply rk_nil | (apply rk_skip; exact rfl) | (apply rk_ld; exact rfl; (repeat (first | with_reducible exact Pk.h | with_reducible apply Pk.t)); exact rfl)))) | ((with_reducible apply t_nx F52.k); exact rfl; exact rfl) | with_reducible apply m_seq | (with_reducible apply m_reg mix) | with_reducible apply m_block | ((with_reducible apply m_ct); exact rfl) | ((with_reducible apply m_cf); exact rfl) | ((with_reducible apply m_skn); exact rfl) | ((with_reducible apply m_exn); exact rfl)))
          refine t_cl rfl rfl (ihr ar sa2 sc2 ks2 hsr (by omega)) (by repeat (first | apply Sx.nil | apply Pk.h | apply Sx.cons | apply Pk.t)) ?_
          rintro _ _ ⟨sa3, sc3, rfl, rfl⟩
          refine ⟨?_, ?_⟩ <;> (try dsimp only [List.cons_append, List.nil_append])
          · (repeat (first | apply rk_nil | (apply rk_skip; exact rfl) | (apply rk_ld; exact rfl; (repeat (first | with_reducible exact Pk.h | with_reducible apply Pk.t)); exact rfl)))
          (repeat (first | ((with_reducible apply t_run); exact rfl) | ((with_reducible apply t_p); exact rfl; exact rfl) | ((with_reducible apply t_gr); exact rfl) | ((with_reducible apply t_ge); exact rfl) | ((with_reducible apply t_ld); exact rfl; exact rfl; (repeat (first | with_reducible exact Pk.h | with_reducible apply Pk.t)); exact rfl) | ((with_reducible apply t_st); exact rfl; exact rfl; exact rfl; (repeat (first | with_reducible exact Pk.h | with_reducible apply Pk.t)); exact rfl; exact rfl; exact Nat.le_of_ble_eq_true rfl; exact rfl; (repeat (first | apply rk_nil | (apply rk_skip; exact rfl) | (apply rk_ld; exact rfl; (repeat (first | with_reducible exact Pk.h | with_reducible apply Pk.t)); exact rfl)))) | ((with_reducible apply t_nx F52.k); exact rfl; exact rfl) | with_reducible apply m_seq | (with_reducible apply m_reg mix) | with_reducible apply m_block | ((with_reducible apply m_ct); exact rfl) | ((with_reducible apply m_cf); exact rfl) | ((with_reducible apply m_skn); exact rfl) | ((with_reducible apply m_exn); exact rfl)))
          refine t_meet rfl (sa3, sc3) trivial [0, 1, 2, 3, 4] rfl (by repeat (first | apply Sx.nil | apply Pk.h | apply Sx.cons | apply Pk.t))
        · have e1 : rngT f o r = [] := rng_right (of_decide_eq_false q1) q2 hxr
          refine m_meet rfl (sa2, sc2) trivial [0, 1, 2, 3, 4] (by rw [e1, List.append_nil]; rfl) (by rw [e1, List.append_nil]; exact (by repeat (first | apply Sx.nil | apply Pk.h | apply Sx.cons | apply Pk.t)))
    rintro ⟨sa3, sc3⟩ _
    simp only [E, A]
    (repeat (first | ((with_reducible apply t_run); exact rfl) | ((with_reducible apply t_p); exact rfl; exact rfl) | ((with_reducible apply t_gr); exact rfl) | ((with_reducible apply t_ge); exact rfl) | ((with_reducible apply t_ld); exact rfl; exact rfl; (repeat (first | with_reducible exact Pk.h | with_reducible apply Pk.t)); exact rfl) | ((with_reducible apply t_st); exact rfl; exact rfl; exact rfl; (repeat (first | with_reducible exact Pk.h | with_reducible apply Pk.t)); exact rfl; exact rfl; exact Nat.le_of_ble_eq_true rfl; exact rfl; (repeat (first | apply rk_nil | (apply rk_skip; exact rfl) | (apply rk_ld; exact rfl; (repeat (first | with_reducible exact Pk.h | with_reducible apply Pk.t)); exact rfl)))) | ((with_reducible apply t_nx F52.k); exact rfl; exact rfl) | with_reducible apply m_seq | (with_reducible apply m_reg mix) | with_reducible apply m_block | ((with_reducible apply m_ct); exact rfl) | ((with_reducible apply m_cf); exact rfl) | ((with_reducible apply m_skn); exact rfl) | ((with_reducible apply m_exn); exact rfl)))
    refine en_node (by repeat (first | apply Sx.nil | apply Pk.h | apply Sx.cons | apply Pk.t)) ?_
    apply m_ret
    · rfl
    · (repeat (first | apply rs_nil | (apply rs_tmp; exact rfl) | (apply rs_cell; exact rfl; (repeat (first | with_reducible exact Pk.h | with_reducible apply Pk.t)); exact rfl)))
    · exact ⟨_, _, rfl, rfl⟩
    · exact (by repeat (first | apply Sx.nil | apply Pk.h | apply Sx.cons | apply Pk.t))
end Go.Proofs.Ythcbefkgfhokoaa

/- The map: Keys, Cut, New. -/
namespace Go.Proofs.Ythcbefkgfhokoaa
open Go Go.Dv
set_option maxRecDepth 100000
attribute [local irreducible] HTh HM En Fsp TrA Cl MpA OwS

def rngL (f o : ByteArray) (l : KL) : List ByteArray := (l.map (·.1)).filter (inR f o)

theorem Keys_spec (m : Nat) (f o : ByteArray) (l : KL) :
    Fsp Try.prog 36 [.pointer (some ⟨m, 0, none⟩), .string f, .string o, .int .i64 9223372036854775807] [MpA m l]
      fun u aa' => ∃ sa sc, u = .slice sa (rngL f o l).length sc ∧ aa' = [MpA m l, OwS 9 1 (.slice sa (rngL f o l).length sc) (rngL f o l).length (strs (rngL f o l))] := by
  refine spec_of F36.ok rfl fun gl X => ?_
  dsimp only [List.cons_append, List.nil_append]
  refine en_map (by repeat (first | with_reducible exact Pk.h | with_reducible apply Pk.t)) ?_
  intro rt t hl hk hs hb
  subst hl
  (repeat (first | ((with_reducible apply t_run); exact rfl) | ((with_reducible apply t_p); exact rfl; exact rfl) | ((with_reducible apply t_gr); exact rfl) | ((with_reducible apply t_ge); exact rfl) | ((with_reducible apply t_ld); exact rfl; exact rfl; (repeat (first | with_reducible exact Pk.h | with_reducible apply Pk.t)); exact rfl) | ((with_reducible apply t_st); exact rfl; exact rfl; exact rfl; (repeat (first | with_reducible exact Pk.h | with_reducible apply Pk.t)); exact rfl; exact rfl; exact Nat.le_of_ble_eq_true rfl; exact rfl; (repeat (first | apply rk_nil | (apply rk_skip; exact rfl) | (apply rk_ld; exact rfl; (repeat (first | with_reducible exact Pk.h | with_reducible apply Pk.t)); exact rfl)))) | ((with_reducible apply t_nx F36.k); exact rfl; exact rfl) | with_reducible apply m_seq | (with_reducible apply m_reg mix) | with_reducible apply m_block | ((with_reducible apply m_ct); exact rfl) | ((with_reducible apply m_cf); exact rfl) | ((with_reducible apply m_skn); exact rfl) | ((with_reducible apply m_exn); exact rfl)))
  have hsz : sz t < 549755813888 := by rw [sz_len]; omega
  refine en_own (E := 9) (kz := 1) ?_
  refine t_cl rfl rfl (keys_spec f o t rt none 0 [] hs (by simp; omega)) (by repeat (first | apply Sx.nil | apply Pk.h | apply Sx.cons | apply Pk.t)) ?_
  rintro _ _ ⟨sa, sc, rfl, rfl⟩
  refine ⟨?_, ?_⟩ <;> (try dsimp only [List.cons_append, List.nil_append])
  · (repeat (first | apply rk_nil | (apply rk_skip; exact rfl) | (apply rk_ld; exact rfl; (repeat (first | with_reducible exact Pk.h | with_reducible apply Pk.t)); exact rfl)))
  (repeat (first | ((with_reducible apply t_run); exact rfl) | ((with_reducible apply t_p); exact rfl; exact rfl) | ((with_reducible apply t_gr); exact rfl) | ((with_reducible apply t_ge); exact rfl) | ((with_reducible apply t_ld); exact rfl; exact rfl; (repeat (first | with_reducible exact Pk.h | with_reducible apply Pk.t)); exact rfl) | ((with_reducible apply t_st); exact rfl; exact rfl; exact rfl; (repeat (first | with_reducible exact Pk.h | with_reducible apply Pk.t)); exact rfl; exact rfl; exact Nat.le_of_ble_eq_true rfl; exact rfl; (repeat (first | apply rk_nil | (apply rk_skip; exact rfl) | (apply rk_ld; exact rfl; (repeat (first | with_reducible exact Pk.h | with_reducible apply Pk.t)); exact rfl)))) | ((with_reducible apply t_nx F36.k); exact rfl; exact rfl) | with_reducible apply m_seq | (with_reducible apply m_reg mix) | with_reducible apply m_block | ((with_reducible apply m_ct); exact rfl) | ((with_reducible apply m_cf); exact rfl) | ((with_reducible apply m_skn); exact rfl) | ((with_reducible apply m_exn); exact rfl)))
  refine en_mkmap (m := m) (l := toL t) (rt := rt) (t := t) rfl hk hs hb rfl (by repeat (first | apply Sx.nil | apply Pk.h | apply Sx.cons | apply Pk.t)) ?_
  apply m_ret
  · rfl
  · (repeat (first | apply rs_nil | (apply rs_tmp; exact rfl) | (apply rs_cell; exact rfl; (repeat (first | with_reducible exact Pk.h | with_reducible apply Pk.t)); exact rfl)))
  · exact ⟨_, _, rfl, rfl⟩
  · exact (by repeat (first | apply Sx.nil | apply Pk.h | apply Sx.cons | apply Pk.t))

theorem New_spec : Fsp Try.prog 26 [] [] fun u aa' => ∃ m, u = .pointer (some ⟨m, 0, none⟩) ∧ aa' = [MpA m []] := by
  refine spec_of F26.ok rfl fun gl X => ?_
  dsimp only [List.cons_append, List.nil_append]
  (repeat (first | ((with_reducible apply t_run); exact rfl) | ((with_reducible apply t_p); exact rfl; exact rfl) | ((with_reducible apply t_gr); exact rfl) | ((with_reducible apply t_ge); exact rfl) | ((with_reducible apply t_ld); exact rfl; exact rfl; (repeat (first | with_reducible exact Pk.h | with_reducible apply Pk.t)); exact rfl) | ((with_reducible apply t_st); exact rfl; exact rfl; exact rfl; (repeat (first | with_reducible exact Pk.h | with_reducible apply Pk.t)); exact rfl; exact rfl; exact Nat.le_of_ble_eq_true rfl; exact rfl; (repeat (first | apply rk_nil | (apply rk_skip; exact rfl) | (apply rk_ld; exact rfl; (repeat (first | with_reducible exact Pk.h | with_reducible apply Pk.t)); exact rfl)))) | ((with_reducible apply t_nx F26.k); exact rfl; exact rfl) | with_reducible apply m_seq | (with_reducible apply m_reg mix) | with_reducible apply m_block | ((with_reducible apply m_ct); exact rfl) | ((with_reducible apply m_cf); exact rfl) | ((with_reducible apply m_skn); exact rfl) | ((with_reducible apply m_exn); exact rfl)))
  refine t_bx rfl rfl rfl fun m => ⟨(by (repeat (first | apply rk_nil | (apply rk_skip; exact rfl) | (apply rk_ld; exact rfl; (repeat (first | with_reducible exact Pk.h | with_reducible apply Pk.t)); exact rfl)))), ?_⟩
  try dsimp only [List.cons_append, List.nil_append]
  (repeat (first | ((with_reducible apply t_run); exact rfl) | ((with_reducible apply t_p); exact rfl; exact rfl) | ((with_reducible apply t_gr); exact rfl) | ((with_reducible apply t_ge); exact rfl) | ((with_reducible apply t_ld); exact rfl; exact rfl; (repeat (first | with_reducible exact Pk.h | with_reducible apply Pk.t)); exact rfl) | ((with_reducible apply t_st); exact rfl; exact rfl; exact rfl; (repeat (first | with_reducible exact Pk.h | with_reducible apply Pk.t)); exact rfl; exact rfl; exact Nat.le_of_ble_eq_true rfl; exact rfl; (repeat (first | apply rk_nil | (apply rk_skip; exact rfl) | (apply rk_ld; exact rfl; (repeat (first | with_reducible exact Pk.h | with_reducible apply Pk.t)); exact rfl)))) | ((with_reducible apply t_nx F26.k); exact rfl; exact rfl) | with_reducible apply m_seq | (with_reducible apply m_reg mix) | with_reducible apply m_block | ((with_reducible apply m_ct); exact rfl) | ((with_reducible apply m_cf); exact rfl) | ((with_reducible apply m_skn); exact rfl) | ((with_reducible apply m_exn); exact rfl)))
  refine en_nl ?_
  refine en_mkmap (m := m) (l := []) (rt := none) (t := .nil) (n := 0) rfl trivial List.Pairwise.nil (by simp) rfl (by repeat (first | apply Sx.nil | apply Pk.h | apply Sx.cons | apply Pk.t)) ?_
  apply m_ret
  · rfl
  · (repeat (first | apply rs_nil | (apply rs_tmp; exact rfl) | (apply rs_cell; exact rfl; (repeat (first | with_reducible exact Pk.h | with_reducible apply Pk.t)); exact rfl)))
  · exact ⟨_, rfl, rfl⟩
  · exact (by repeat (first | apply Sx.nil | apply Pk.h | apply Sx.cons | apply Pk.t))

theorem cutK_srt {l : KL} {k : ByteArray} (h : Srt l) : Srt (cutK l k) := List.Pairwise.sublist List.filter_sublist h
theorem Cut_spec (m : Nat) (key : ByteArray) (l : KL) :
    Fsp Try.prog 40 [.pointer (some ⟨m, 0, none⟩), .string key] [MpA m l] fun u aa' => (∃ b, u = .bool b) ∧ aa' = [MpA m (cutK l key)] := by
  refine spec_of F40.ok rfl fun gl X => ?_
  dsimp only [List.cons_append, List.nil_append]
  refine en_map (by repeat (first | with_reducible exact Pk.h | with_reducible apply Pk.t)) ?_
  intro rt t hl hk hs hb
  subst hl
  (repeat (first | ((with_reducible apply t_run); exact rfl) | ((with_reducible apply t_p); exact rfl; exact rfl) | ((with_reducible apply t_gr); exact rfl) | ((with_reducible apply t_ge); exact rfl) | ((with_reducible apply t_ld); exact rfl; exact rfl; (repeat (first | with_reducible exact Pk.h | with_reducible apply Pk.t)); exact rfl) | ((with_reducible apply t_st); exact rfl; exact rfl; exact rfl; (repeat (first | with_reducible exact Pk.h | with_reducible apply Pk.t)); exact rfl; exact rfl; exact Nat.le_of_ble_eq_true rfl; exact rfl; (repeat (first | apply rk_nil | (apply rk_skip; exact rfl) | (apply rk_ld; exact rfl; (repeat (first | with_reducible exact Pk.h | with_reducible apply Pk.t)); exact rfl)))) | ((with_reducible apply t_nx F40.k); exact rfl; exact rfl) | with_reducible apply m_seq | (with_reducible apply m_reg mix) | with_reducible apply m_block | ((with_reducible apply m_ct); exact rfl) | ((with_reducible apply m_cf); exact rfl) | ((with_reducible apply m_skn); exact rfl) | ((with_reducible apply m_exn); exact rfl)))
  have hsz : sz t < 549755813888 := by rw [sz_len]; omega
  refine t_cl rfl rfl (cut_spec m key rt t rt _ hk hsz hs) (by repeat (first | apply Sx.nil | apply Pk.h | apply Sx.cons | apply Pk.t)) ?_
  rintro _ _ ⟨a', rfl, rfl⟩
  refine ⟨?_, ?_⟩ <;> (try dsimp only [List.cons_append, List.nil_append])
  · (repeat (first | apply rk_nil | (apply rk_skip; exact rfl) | (apply rk_ld; exact rfl; (repeat (first | with_reducible exact Pk.h | with_reducible apply Pk.t)); exact rfl)))
  (repeat (first | ((with_reducible apply t_run); exact rfl) | ((with_reducible apply t_p); exact rfl; exact rfl) | ((with_reducible apply t_gr); exact rfl) | ((with_reducible apply t_ge); exact rfl) | ((with_reducible apply t_ld); exact rfl; exact rfl; (repeat (first | with_reducible exact Pk.h | with_reducible apply Pk.t)); exact rfl) | ((with_reducible apply t_st); exact rfl; exact rfl; exact rfl; (repeat (first | with_reducible exact Pk.h | with_reducible apply Pk.t)); exact rfl; exact rfl; exact Nat.le_of_ble_eq_true rfl; exact rfl; (repeat (first | apply rk_nil | (apply rk_skip; exact rfl) | (apply rk_ld; exact rfl; (repeat (first | with_reducible exact Pk.h | with_reducible apply Pk.t)); exact rfl)))) | ((with_reducible apply t_nx F40.k); exact rfl; exact rfl) | with_reducible apply m_seq | (with_reducible apply m_reg mix) | with_reducible apply m_block | ((with_reducible apply m_ct); exact rfl) | ((with_reducible apply m_cf); exact rfl) | ((with_reducible apply m_skn); exact rfl) | ((with_reducible apply m_exn); exact rfl)))
  obtain ⟨h1, h2, h3, h4⟩ := cut_ok key t hk hsz hs
  obtain ⟨d, h5, h6⟩ := h4 (toL t).length (by rw [sz_len]; exact Nat.le_refl _) (by omega)
  have h7 := cutK_srt (k := key) hs
  have h8 : (cutK (toL t) key).length = (toL t).length - d := by
    have := sz_len t; have := sz_len (cutT key t); rw [← h2]; omega
  refine en_mkmap (m := m) (l := cutK (toL t) key) (rt := a') (t := cutT key t) h2 h1 h7 (by omega) (n := subN key t ((toL t).length : Nat)) (by rw [h6, h8]) (by repeat (first | apply Sx.nil | apply Pk.h | apply Sx.cons | apply Pk.t)) ?_
  apply m_ret
  · rfl
  · (repeat (first | apply rs_nil | (apply rs_tmp; exact rfl) | (apply rs_cell; exact rfl; (repeat (first | with_reducible exact Pk.h | with_reducible apply Pk.t)); exact rfl)))
  · exact ⟨⟨_, rfl⟩, rfl⟩
  · exact (by repeat (first | apply Sx.nil | apply Pk.h | apply Sx.cons | apply Pk.t))

end Go.Proofs.Ythcbefkgfhokoaa
