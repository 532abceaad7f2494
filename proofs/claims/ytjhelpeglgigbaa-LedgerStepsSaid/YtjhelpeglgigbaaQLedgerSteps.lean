/- The row of the law LedgerSteps: for every input that the row speaks of the law returns true; each argument reads behind the call as it read before. -/
import Derived.Test.YtjhelpeglgigbaaProg
import Derived.Test.YtjhelpeglgigbaaQLedgerStepsB
import Derived.Test.YtjhelpeglgigbaaQLedgerStepsC
import Derived.Test.YtjhelpeglgigbaaQLedgerStepsD
import Derived.KernelRfl
import Derived.Lib.Join
import Derived.Lib.Repeat
import Derived.Below
import Derived.OwnWalk
import Derived.Orders
import Derived.WalkKit
import Derived.Laws.Slices
import Derived.LaidMore
import Derived.FnData
import Derived.Test.YtjhelpeglgigbaaRows
import Derived.ProofKit
import Derived.OpenShut
import Derived.ShutString
import Derived.ChangeOld
import Derived.SizedLaws
import Derived.SliceStrings
import Derived.Carry
import Derived.Test.YtjhelpeglgigbaaWSized
section
/- Go functions compute what Lean functions do. -/
namespace Go.Proofs.Ytjhelpeglgigbaa.V
open Go Go.RowKit
set_option linter.unusedVariables false
set_option linter.unusedSimpArgs false
set_option maxHeartbeats 1000000
set_option maxRecDepth 20000
-- 5 consignor/consignorlaw10.LedgerSteps
def c5r0 : List Opn := [
  ⟨(some 3), none, .box 2 (.t 0)⟩, 
  ⟨(some 6), none, .mv (.c (.s (.d (.bool false))))⟩]
def c5r1 : List Opn := [
  ⟨(some 28), none, .load true 2 (.t 3)⟩, 
  ⟨(some 29), none, .call (.fn 9) [(.t 28)]⟩, 
  ⟨(some 30), none, .mv (.t 2)⟩, 
  ⟨(some 31), none, .call (.fn 17) [(.t 30)]⟩, 
  ⟨none, none, .store 2 (.t 3) (.t 29)⟩, 
  ⟨(some 2), none, .mv (.t 31)⟩]
def c5r2 : List Opn := [
  ⟨(some 33), none, .load true 2 (.t 3)⟩, 
  ⟨(some 34), none, .call (.fn 11) [(.t 33)]⟩, 
  ⟨(some 32), none, .mv (.t 34)⟩, 
  ⟨(some 35), none, .ext (.t 32) 0⟩, 
  ⟨(some 36), none, .ext (.t 32) 1⟩, 
  ⟨(some 7), none, .new [.nils, .nils, (.d (.int .i64 0)), (.d (.int .i64 0)), (.d (.int .i64 0)), .nils]⟩, 
  ⟨none, none, .store 6 (.t 7) (.t 35)⟩, 
  ⟨(some 8), none, .mv (.t 36)⟩]
def c5r3 : List Opn := [
  ⟨(some 38), none, .load true 6 (.t 7)⟩, 
  ⟨(some 39), none, .mv (.t 1)⟩, 
  ⟨(some 40), none, .mv (.t 2)⟩, 
  ⟨(some 41), none, .call (.fn 21) [(.t 38), (.t 39), (.t 40)]⟩, 
  ⟨(some 37), none, .mv (.t 41)⟩, 
  ⟨(some 42), none, .ext (.t 37) 0⟩, 
  ⟨(some 43), none, .ext (.t 37) 1⟩, 
  ⟨(some 9), none, .mv (.t 42)⟩, 
  ⟨(some 10), none, .mv (.t 43)⟩]
def c5r4 : List Opn := [
  ⟨(some 11), none, .new [.nils, .nils, (.d (.int .i64 0)), (.d (.int .i64 0)), (.d (.int .i64 0)), .nils]⟩]
def c5r5 : List Opn := [
  ⟨(some 12), none, .mv (.c (.s (.d (.int .i64 0))))⟩]
def c5r6 : List Opn := [
  ⟨(some 44), none, .mv (.t 1)⟩]
def c5r7 : List Opn := [
  ⟨(some 46), none, .load true 6 (.t 7)⟩, 
  ⟨(some 47), none, .mv (.t 2)⟩, 
  ⟨(some 48), none, .call (.fn 22) [(.t 46), (.t 47)]⟩, 
  ⟨(some 45), none, .mv (.t 48)⟩, 
  ⟨(some 49), none, .ext (.t 45) 0⟩, 
  ⟨(some 50), none, .ext (.t 45) 1⟩, 
  ⟨none, none, .store 6 (.t 11) (.t 49)⟩, 
  ⟨(some 12), none, .mv (.t 50)⟩]
def c5r8 : List Opn := [
  ⟨(some 52), none, .load true 6 (.t 7)⟩, 
  ⟨(some 53), none, .mv (.t 2)⟩, 
  ⟨(some 54), none, .call (.fn 18) [(.t 52), (.t 53)]⟩, 
  ⟨(some 51), none, .mv (.t 54)⟩, 
  ⟨(some 55), none, .ext (.t 51) 0⟩, 
  ⟨(some 56), none, .ext (.t 51) 1⟩, 
  ⟨none, none, .store 6 (.t 11) (.t 55)⟩, 
  ⟨(some 12), none, .mv (.t 56)⟩]
def c5r9 : List Opn := [
  ⟨(some 57), none, .mv (.t 10)⟩, 
  ⟨(some 58), none, .mv (.t 12)⟩, 
  ⟨(some 59), none, .bin .neq (.t 57) (.t 58)⟩, 
  ⟨(some 60), none, .mv (.t 59)⟩, 
  ⟨(some 61), some (60, false), .call (.fn 14) []⟩, 
  ⟨(some 62), some (60, false), .un .not (.t 61)⟩, 
  ⟨(some 63), none, .pick (.t 60) (.c (.s (.d (.bool true)))) (.t 62)⟩]
def c5r10 : List Opn := [
  ⟨(some 6), none, .mv (.c (.s (.d (.bool false))))⟩]
def c5r11 : List Opn := [
  ⟨(some 64), none, .mv (.t 8)⟩, 
  ⟨(some 65), none, .bin .neq (.t 64) (.c (.s (.d (.int .i64 0))))⟩]
def c5r12 : List Opn := [
  ⟨(some 66), none, .mv (.t 10)⟩, 
  ⟨(some 67), none, .bin .eql (.t 66) (.c (.s (.d (.int .i64 1))))⟩, 
  ⟨(some 68), none, .mv (.t 67)⟩, 
  ⟨(some 69), some (68, true), .mv (.t 9)⟩, 
  ⟨(some 70), some (68, true), .len (.sl 0) (.t 69)⟩, 
  ⟨(some 71), some (68, true), .bin .eql (.t 70) (.c (.s (.d (.int .i64 0))))⟩, 
  ⟨(some 72), none, .pick (.t 68) (.t 71) (.c (.s (.d (.bool false))))⟩, 
  ⟨(some 6), none, .mv (.t 72)⟩]
def c5r13 : List Opn := [
  ⟨(some 73), none, .mv (.t 2)⟩, 
  ⟨(some 74), none, .call (.fn 23) [(.t 73)]⟩, 
  ⟨(some 75), none, .un .not (.t 74)⟩]
def c5r14 : List Opn := [
  ⟨(some 76), none, .mv (.t 10)⟩, 
  ⟨(some 77), none, .bin .eql (.t 76) (.c (.s (.d (.int .i64 2))))⟩, 
  ⟨(some 78), none, .mv (.t 77)⟩, 
  ⟨(some 79), some (78, true), .mv (.t 9)⟩, 
  ⟨(some 80), some (78, true), .len (.sl 0) (.t 79)⟩, 
  ⟨(some 81), some (78, true), .bin .eql (.t 80) (.c (.s (.d (.int .i64 0))))⟩, 
  ⟨(some 82), none, .pick (.t 78) (.t 81) (.c (.s (.d (.bool false))))⟩, 
  ⟨(some 6), none, .mv (.t 82)⟩]
def c5r15 : List Opn := [
  ⟨(some 83), none, .mv (.t 2)⟩, 
  ⟨(some 84), none, .call (.fn 24) [(.t 83)]⟩, 
  ⟨(some 13), none, .mv (.t 84)⟩]
def c5r16 : List Opn := [
  ⟨(some 85), none, .fadr 2 (.t 7)⟩, 
  ⟨(some 86), none, .load false 1 (.t 85)⟩, 
  ⟨(some 87), none, .fadr 3 (.t 7)⟩, 
  ⟨(some 88), none, .load false 1 (.t 87)⟩, 
  ⟨(some 89), none, .fadr 4 (.t 7)⟩, 
  ⟨(some 90), none, .load false 1 (.t 89)⟩, 
  ⟨(some 14), none, .mv (.t 86)⟩, 
  ⟨(some 15), none, .mv (.t 88)⟩, 
  ⟨(some 16), none, .mv (.t 90)⟩]
def c5r17 : List Opn := [
  ⟨(some 91), none, .mv (.t 1)⟩]
def c5r18 : List Opn := [
  ⟨(some 92), none, .fadr 2 (.t 7)⟩, 
  ⟨(some 93), none, .load false 1 (.t 92)⟩, 
  ⟨(some 94), none, .bin .sub (.c (.s (.d (.int .i64 1)))) (.t 93)⟩, 
  ⟨(some 95), none, .fadr 3 (.t 7)⟩, 
  ⟨(some 96), none, .load false 1 (.t 95)⟩, 
  ⟨(some 97), none, .bin .add (.t 96) (.c (.s (.d (.int .i64 1))))⟩, 
  ⟨(some 14), none, .mv (.t 94)⟩, 
  ⟨(some 15), none, .mv (.t 97)⟩, 
  ⟨(some 16), none, .mv (.c (.s (.d (.int .i64 0))))⟩]
def c5r19 : List Opn := [
  ⟨(some 98), none, .mv (.t 13)⟩, 
  ⟨(some 99), none, .len .str (.t 98)⟩, 
  ⟨(some 100), none, .load true 2 (.t 3)⟩, 
  ⟨(some 101), none, .mv (.t 14)⟩, 
  ⟨(some 102), none, .call (.fn 25) [(.t 100), (.t 101)]⟩, 
  ⟨(some 103), none, .len .str (.t 102)⟩, 
  ⟨(some 104), none, .mv (.t 16)⟩, 
  ⟨(some 105), none, .bin .sub (.t 103) (.t 104)⟩, 
  ⟨(some 106), none, .bin .gtr (.t 99) (.t 105)⟩, 
  ⟨(some 107), none, .mv (.t 106)⟩, 
  ⟨(some 108), some (107, false), .mv (.t 15)⟩, 
  ⟨(some 109), some (107, false), .bin .gtr (.t 108) (.c (.s (.d (.int .i64 1099511627776))))⟩, 
  ⟨(some 110), none, .pick (.t 107) (.c (.s (.d (.bool true)))) (.t 109)⟩]
def c5r20 : List Opn := [
  ⟨(some 111), none, .mv (.t 10)⟩, 
  ⟨(some 112), none, .bin .eql (.t 111) (.c (.s (.d (.int .i64 13))))⟩, 
  ⟨(some 113), none, .mv (.t 112)⟩, 
  ⟨(some 114), some (113, true), .mv (.t 9)⟩, 
  ⟨(some 115), some (113, true), .len (.sl 0) (.t 114)⟩, 
  ⟨(some 116), some (113, true), .bin .eql (.t 115) (.c (.s (.d (.int .i64 0))))⟩, 
  ⟨(some 117), none, .pick (.t 113) (.t 116) (.c (.s (.d (.bool false))))⟩, 
  ⟨(some 6), none, .mv (.t 117)⟩]
def c5r21 : List Opn := [
  ⟨(some 119), none, .load true 2 (.t 3)⟩, 
  ⟨(some 120), none, .mv (.t 14)⟩, 
  ⟨(some 121), none, .mv (.t 15)⟩, 
  ⟨(some 122), none, .mv (.t 16)⟩, 
  ⟨(some 123), none, .mv (.t 13)⟩, 
  ⟨(some 124), none, .call (.fn 26) [(.t 119), (.t 120), (.t 121), (.t 122), (.t 123)]⟩, 
  ⟨(some 125), none, .call (.fn 11) [(.t 124)]⟩, 
  ⟨(some 118), none, .mv (.t 125)⟩, 
  ⟨(some 126), none, .ext (.t 118) 0⟩, 
  ⟨(some 127), none, .ext (.t 118) 1⟩, 
  ⟨(some 17), none, .new [.nils, .nils, (.d (.int .i64 0)), (.d (.int .i64 0)), (.d (.int .i64 0)), .nils]⟩, 
  ⟨none, none, .store 6 (.t 17) (.t 126)⟩, 
  ⟨(some 18), none, .mv (.t 127)⟩]
def c5r22 : List Opn := [
  ⟨(some 128), none, .mv (.t 10)⟩, 
  ⟨(some 129), none, .bin .neq (.t 128) (.c (.s (.d (.int .i64 0))))⟩, 
  ⟨(some 130), none, .mv (.t 129)⟩, 
  ⟨(some 131), some (130, false), .mv (.t 18)⟩, 
  ⟨(some 132), some (130, false), .bin .neq (.t 131) (.c (.s (.d (.int .i64 0))))⟩, 
  ⟨(some 133), none, .pick (.t 130) (.c (.s (.d (.bool true)))) (.t 132)⟩, 
  ⟨(some 134), none, .mv (.t 133)⟩, 
  ⟨(some 135), some (134, false), .load true 6 (.t 11)⟩, 
  ⟨(some 136), some (134, false), .load true 6 (.t 17)⟩, 
  ⟨(some 137), some (134, false), .call (.fn 13) [(.t 135), (.t 136)]⟩, 
  ⟨(some 138), some (134, false), .un .not (.t 137)⟩, 
  ⟨(some 139), none, .pick (.t 134) (.c (.s (.d (.bool true)))) (.t 138)⟩, 
  ⟨(some 140), none, .mv (.t 139)⟩, 
  ⟨(some 141), some (140, false), .mv (.t 9)⟩, 
  ⟨(some 142), some (140, false), .len (.sl 0) (.t 141)⟩, 
  ⟨(some 143), some (140, false), .bin .neq (.t 142) (.c (.s (.d (.int .i64 2))))⟩, 
  ⟨(some 144), none, .pick (.t 140) (.c (.s (.d (.bool true)))) (.t 143)⟩, 
  ⟨(some 145), none, .mv (.t 144)⟩, 
  ⟨(some 146), some (145, false), .mv (.t 9)⟩, 
  ⟨(some 147), some (145, false), .iadr (.sl 1) (.t 146) (.c (.s (.d (.int .i64 1))))⟩, 
  ⟨(some 148), some (145, false), .load false 1 (.t 147)⟩, 
  ⟨(some 149), some (145, false), .len (.sl 0) (.t 148)⟩, 
  ⟨(some 150), some (145, false), .bin .neq (.t 149) (.c (.s (.d (.int .i64 1))))⟩, 
  ⟨(some 151), none, .pick (.t 145) (.c (.s (.d (.bool true)))) (.t 150)⟩]
def c5r23 : List Opn := [
  ⟨(some 6), none, .mv (.c (.s (.d (.bool false))))⟩]
def c5r24 : List Opn := [
  ⟨(some 152), none, .load true 2 (.t 3)⟩, 
  ⟨(some 19), none, .new [.nils, .nils]⟩, 
  ⟨none, none, .store 2 (.t 19) (.t 152)⟩, 
  ⟨(some 20), none, .mv (.c (.s (.d (.int .i64 (-1)))))⟩]
def c5r25 : List Opn := [
  ⟨(some 153), none, .mv (.t 9)⟩, 
  ⟨(some 154), none, .len (.sl 0) (.t 153)⟩, 
  ⟨(some 155), none, .mv (.c (.s (.d (.int .i64 0))))⟩]
def c5r26 : List Opn := [
  ⟨(some 156), none, .bin .lss (.t 155) (.t 154)⟩]
def c5r27 : List Opn := [
  ⟨(some 157), none, .iadr (.sl 1) (.t 153) (.t 155)⟩, 
  ⟨(some 158), none, .load false 1 (.t 157)⟩, 
  ⟨(some 22), none, .mv (.t 158)⟩]
def c5r28 : List Opn := [
  ⟨(some 159), none, .mv (.t 22)⟩, 
  ⟨(some 160), none, .len (.sl 0) (.t 159)⟩, 
  ⟨(some 161), none, .mv (.c (.s (.d (.int .i64 0))))⟩]
def c5r29 : List Opn := [
  ⟨(some 162), none, .bin .lss (.t 161) (.t 160)⟩]
def c5r30 : List Opn := [
  ⟨(some 163), none, .iadr (.sl 2) (.t 159) (.t 161)⟩, 
  ⟨(some 164), none, .load true 2 (.t 163)⟩, 
  ⟨(some 24), none, .new [(.d (.int .i64 0)), (.d (.str []))]⟩, 
  ⟨none, none, .store 2 (.t 24) (.t 164)⟩]
def c5r31 : List Opn := [
  ⟨(some 165), none, .fadr 0 (.t 24)⟩, 
  ⟨(some 166), none, .load false 1 (.t 165)⟩, 
  ⟨(some 167), none, .mv (.t 20)⟩, 
  ⟨(some 168), none, .bin .leq (.t 166) (.t 167)⟩, 
  ⟨(some 169), none, .mv (.t 168)⟩, 
  ⟨(some 170), some (169, true), .mv (.t 22)⟩, 
  ⟨(some 171), some (169, true), .len (.sl 0) (.t 170)⟩, 
  ⟨(some 172), some (169, true), .bin .gtr (.t 171) (.c (.s (.d (.int .i64 1))))⟩, 
  ⟨(some 173), none, .pick (.t 169) (.t 172) (.c (.s (.d (.bool false))))⟩]
def c5r32 : List Opn := [
  ⟨(some 6), none, .mv (.c (.s (.d (.bool false))))⟩]
def c5r33 : List Opn := [
  ⟨(some 174), none, .fadr 0 (.t 24)⟩, 
  ⟨(some 175), none, .load false 1 (.t 174)⟩, 
  ⟨(some 20), none, .mv (.t 175)⟩]
def c5r34 : List Opn := [
  ⟨(some 177), none, .load true 2 (.t 19)⟩, 
  ⟨(some 178), none, .load true 2 (.t 24)⟩, 
  ⟨(some 179), none, .bsl 2 [(.t 178)]⟩, 
  ⟨(some 180), none, .call (.fn 27) [(.t 177), (.t 179)]⟩, 
  ⟨(some 176), none, .mv (.t 180)⟩, 
  ⟨(some 181), none, .ext (.t 176) 0⟩, 
  ⟨(some 182), none, .ext (.t 176) 1⟩, 
  ⟨(some 25), none, .new [.nils, .nils]⟩, 
  ⟨none, none, .store 2 (.t 25) (.t 181)⟩, 
  ⟨(some 26), none, .mv (.t 182)⟩]
def c5r35 : List Opn := [
  ⟨(some 183), none, .mv (.t 26)⟩, 
  ⟨(some 184), none, .bin .neq (.t 183) (.c (.s (.d (.int .i64 0))))⟩]
def c5r36 : List Opn := [
  ⟨(some 6), none, .mv (.c (.s (.d (.bool false))))⟩]
def c5r37 : List Opn := [
  ⟨(some 185), none, .load true 2 (.t 25)⟩, 
  ⟨none, none, .store 2 (.t 19) (.t 185)⟩]
def c5r38 : List Opn := [
  ⟨(some 186), none, .bin .add (.t 161) (.c (.s (.d (.int .i64 1))))⟩, 
  ⟨(some 161), none, .mv (.t 186)⟩]
def c5l39 : C := .seq (.reg c5r29 none [3, 9, 13, 14, 17, 19, 20, 22, 153, 154, 155, 159, 160, 161, 162]) (.seq (.cond (.t 162) (.skip) (.exit 2)) (.seq (.blk 3 (.seq (.reg c5r30 none [3, 9, 13, 14, 17, 19, 20, 22, 24, 153, 154, 155, 159, 160, 161]) (.seq (.seq (.reg c5r31 none [3, 9, 13, 14, 17, 19, 22, 24, 153, 154, 155, 159, 160, 161, 173]) (.cond (.t 173) (.seq (.reg c5r32 none [6]) (.ret)) (.skip))) (.seq (.reg c5r33 none [3, 9, 13, 14, 17, 19, 20, 22, 24, 153, 154, 155, 159, 160, 161]) (.seq (.reg c5r34 none [3, 9, 13, 14, 17, 19, 20, 22, 25, 26, 153, 154, 155, 159, 160, 161]) (.seq (.seq (.reg c5r35 none [3, 9, 13, 14, 17, 19, 20, 22, 25, 153, 154, 155, 159, 160, 161, 184]) (.cond (.t 184) (.seq (.reg c5r36 none [6]) (.ret)) (.skip))) (.reg c5r37 none [3, 9, 13, 14, 17, 19, 20, 22, 153, 154, 155, 159, 160, 161]))))))) (.reg c5r38 none [3, 9, 13, 14, 17, 19, 20, 22, 153, 154, 155, 159, 160, 161])))
def c5r39 : List Opn := [
  ⟨(some 187), none, .bin .add (.t 155) (.c (.s (.d (.int .i64 1))))⟩, 
  ⟨(some 155), none, .mv (.t 187)⟩]
def c5l41 : C := .seq (.reg c5r26 none [3, 9, 13, 14, 17, 19, 20, 153, 154, 155, 156]) (.seq (.cond (.t 156) (.skip) (.exit 0)) (.seq (.blk 1 (.seq (.reg c5r27 none [3, 9, 13, 14, 17, 19, 20, 22, 153, 154, 155]) (.seq (.reg c5r28 none [3, 9, 13, 14, 17, 19, 20, 22, 153, 154, 155, 159, 160, 161]) (.blk 2 (.loop c5l39))))) (.reg c5r39 none [3, 9, 13, 14, 17, 19, 20, 153, 154, 155])))
def c5r40 : List Opn := [
  ⟨(some 189), none, .load true 2 (.t 19)⟩, 
  ⟨(some 190), none, .call (.fn 28) [(.t 189)]⟩, 
  ⟨(some 188), none, .mv (.t 190)⟩, 
  ⟨(some 191), none, .ext (.t 188) 0⟩, 
  ⟨(some 192), none, .ext (.t 188) 1⟩, 
  ⟨none, none, .store 2 (.t 19) (.t 191)⟩, 
  ⟨(some 27), none, .mv (.t 192)⟩]
def c5r41 : List Opn := [
  ⟨(some 193), none, .mv (.t 27)⟩, 
  ⟨(some 194), none, .bin .eql (.t 193) (.c (.s (.d (.int .i64 0))))⟩, 
  ⟨(some 195), none, .mv (.t 194)⟩, 
  ⟨(some 196), some (195, true), .load true 2 (.t 19)⟩, 
  ⟨(some 197), some (195, true), .fadr 0 (.t 17)⟩, 
  ⟨(some 198), some (195, true), .load true 2 (.t 197)⟩, 
  ⟨(some 199), some (195, true), .call (.fn 20) [(.t 196), (.t 198)]⟩, 
  ⟨(some 200), none, .pick (.t 195) (.t 199) (.c (.s (.d (.bool false))))⟩, 
  ⟨(some 201), none, .mv (.t 200)⟩, 
  ⟨(some 202), some (201, true), .mv (.t 9)⟩, 
  ⟨(some 203), some (201, true), .iadr (.sl 1) (.t 202) (.c (.s (.d (.int .i64 1))))⟩, 
  ⟨(some 204), some (201, true), .load false 1 (.t 203)⟩, 
  ⟨(some 205), some (201, true), .iadr (.sl 2) (.t 204) (.c (.s (.d (.int .i64 0))))⟩, 
  ⟨(some 206), some (201, true), .fadr 0 (.t 205)⟩, 
  ⟨(some 207), some (201, true), .load false 1 (.t 206)⟩, 
  ⟨(some 208), some (201, true), .load true 2 (.t 3)⟩, 
  ⟨(some 209), some (201, true), .mv (.t 14)⟩, 
  ⟨(some 210), some (201, true), .call (.fn 29) [(.t 208), (.t 209)]⟩, 
  ⟨(some 211), some (201, true), .bin .eql (.t 207) (.t 210)⟩, 
  ⟨(some 212), none, .pick (.t 201) (.t 211) (.c (.s (.d (.bool false))))⟩, 
  ⟨(some 213), none, .mv (.t 212)⟩, 
  ⟨(some 214), some (213, true), .mv (.t 13)⟩, 
  ⟨(some 215), some (213, true), .len .str (.t 214)⟩, 
  ⟨(some 216), some (213, true), .bin .gtr (.t 215) (.c (.s (.d (.int .i64 0))))⟩, 
  ⟨(some 217), some (213, true), .mv (.t 9)⟩, 
  ⟨(some 218), some (213, true), .iadr (.sl 1) (.t 217) (.c (.s (.d (.int .i64 0))))⟩, 
  ⟨(some 219), some (213, true), .load false 1 (.t 218)⟩, 
  ⟨(some 220), some (213, true), .len (.sl 0) (.t 219)⟩, 
  ⟨(some 221), some (213, true), .bin .gtr (.t 220) (.c (.s (.d (.int .i64 0))))⟩, 
  ⟨(some 222), some (213, true), .bbo .eql (.t 216) (.t 221)⟩, 
  ⟨(some 223), none, .pick (.t 213) (.t 222) (.c (.s (.d (.bool false))))⟩, 
  ⟨(some 6), none, .mv (.t 223)⟩]
def c5 : C := .seq (.reg c5r0 none [1, 2, 3]) (.seq (.reg c5r1 none [1, 2, 3]) (.seq (.reg c5r2 none [1, 2, 3, 7, 8]) (.seq (.reg c5r3 none [1, 2, 3, 7, 8, 9, 10]) (.seq (.reg c5r4 none [1, 2, 3, 7, 8, 9, 10, 11]) (.seq (.reg c5r5 none [1, 2, 3, 7, 8, 9, 10, 11]) (.seq (.seq (.reg c5r6 none [1, 2, 3, 7, 8, 9, 10, 11, 44]) (.cond (.t 44) (.reg c5r7 none [1, 2, 3, 7, 8, 9, 10, 11, 12]) (.reg c5r8 none [1, 2, 3, 7, 8, 9, 10, 11, 12]))) (.seq (.seq (.reg c5r9 none [1, 2, 3, 7, 8, 9, 10, 11, 63]) (.cond (.t 63) (.seq (.reg c5r10 none [6]) (.ret)) (.skip))) (.seq (.seq (.reg c5r11 none [1, 2, 3, 7, 9, 10, 11, 65]) (.cond (.t 65) (.seq (.reg c5r12 none [6]) (.ret)) (.skip))) (.seq (.seq (.reg c5r13 none [1, 2, 3, 7, 9, 10, 11, 75]) (.cond (.t 75) (.seq (.reg c5r14 none [6]) (.ret)) (.skip))) (.seq (.reg c5r15 none [1, 3, 7, 9, 10, 11, 13]) (.seq (.reg c5r16 (some [0, 1, 0, 4, 0, 16, 3, 79, 255]) [1, 3, 7, 9, 10, 11, 13, 14, 15, 16]) (.seq (.seq (.reg c5r17 none [3, 7, 9, 10, 11, 13, 14, 15, 16, 91]) (.cond (.t 91) (.reg c5r18 (some [0, 1, 3, 0, 8, 24, 7, 127, 255]) [3, 9, 10, 11, 13, 14, 15, 16]) (.skip))) (.seq (.seq (.reg c5r19 none [3, 9, 10, 11, 13, 14, 15, 16, 110]) (.cond (.t 110) (.seq (.reg c5r20 none [6]) (.ret)) (.skip))) (.seq (.reg c5r21 none [3, 9, 10, 11, 13, 14, 17, 18]) (.seq (.seq (.reg c5r22 none [3, 9, 13, 14, 17, 151]) (.cond (.t 151) (.seq (.reg c5r23 none [6]) (.ret)) (.skip))) (.seq (.reg c5r24 none [3, 9, 13, 14, 17, 19, 20]) (.seq (.seq (.reg c5r25 none [3, 9, 13, 14, 17, 19, 20, 153, 154, 155]) (.blk 0 (.loop c5l41))) (.seq (.reg c5r40 none [3, 9, 13, 14, 17, 19, 27]) (.seq (.reg c5r41 (some [0, 1, 3, 7, 7, 23, 63, 127, 255, 511, 1023, 2047, 4095, 8191, 16383, 511, 511, 98815, 262143, 524287, 1048575, 2097151, 4194303, 8388607, 2097151, 18874367, 52428799, 119537663, 253755391, 536870911, 1073741823, 2147483647]) [6]) (.ret))))))))))))))))))))
def k5 : List (Nat × List Nat) := [(41, [6]), (40, [3, 9, 13, 14, 17, 19, 27]), (39, [3, 9, 13, 14, 17, 19, 20, 153, 154, 155]), (38, [3, 9, 13, 14, 17, 19, 20, 22, 153, 154, 155, 159, 160, 161]), (37, [3, 9, 13, 14, 17, 19, 20, 22, 153, 154, 155, 159, 160, 161]), (36, [6]), (35, [3, 9, 13, 14, 17, 19, 20, 22, 25, 153, 154, 155, 159, 160, 161, 184]), (34, [3, 9, 13, 14, 17, 19, 20, 22, 25, 26, 153, 154, 155, 159, 160, 161]), (33, [3, 9, 13, 14, 17, 19, 20, 22, 24, 153, 154, 155, 159, 160, 161]), (32, [6]), (31, [3, 9, 13, 14, 17, 19, 22, 24, 153, 154, 155, 159, 160, 161, 173]), (30, [3, 9, 13, 14, 17, 19, 20, 22, 24, 153, 154, 155, 159, 160, 161]), (29, [3, 9, 13, 14, 17, 19, 20, 22, 153, 154, 155, 159, 160, 161, 162]), (28, [3, 9, 13, 14, 17, 19, 20, 22, 153, 154, 155, 159, 160, 161]), (27, [3, 9, 13, 14, 17, 19, 20, 22, 153, 154, 155]), (26, [3, 9, 13, 14, 17, 19, 20, 153, 154, 155, 156]), (25, [3, 9, 13, 14, 17, 19, 20, 153, 154, 155]), (24, [3, 9, 13, 14, 17, 19, 20]), (23, [6]), (22, [3, 9, 13, 14, 17, 151]), (21, [3, 9, 10, 11, 13, 14, 17, 18]), (20, [6]), (19, [3, 9, 10, 11, 13, 14, 15, 16, 110]), (18, [3, 9, 10, 11, 13, 14, 15, 16]), (17, [3, 7, 9, 10, 11, 13, 14, 15, 16, 91]), (16, [1, 3, 7, 9, 10, 11, 13, 14, 15, 16]), (15, [1, 3, 7, 9, 10, 11, 13]), (14, [6]), (13, [1, 2, 3, 7, 9, 10, 11, 75]), (12, [6]), (11, [1, 2, 3, 7, 9, 10, 11, 65]), (10, [6]), (9, [1, 2, 3, 7, 8, 9, 10, 11, 63]), (7, [1, 2, 3, 7, 8, 9, 10, 11, 12]), (8, [1, 2, 3, 7, 8, 9, 10, 11, 12]), (6, [1, 2, 3, 7, 8, 9, 10, 11, 44]), (5, [1, 2, 3, 7, 8, 9, 10, 11]), (4, [1, 2, 3, 7, 8, 9, 10, 11]), (3, [1, 2, 3, 7, 8, 9, 10]), (2, [1, 2, 3, 7, 8]), (1, [1, 2, 3]), (0, [1, 2, 3])]
theorem cc5 : (Try.f5.body).bind (cC Try.prog 224 k5) = some c5 := by kernel_rfl
def rv5 : List RV := [.t 6]
theorem cr5 : cRVs Try.prog Try.f5.results.toList = some rv5 := by kernel_rfl
theorem f_law10_LedgerSteps_l39_ok (d : api_Disk) (t : api_Disk) (t4 : (List (List api_Write)) × Int) (s : Int × (List Str) × (List api_Write) × Int × Int × Int × (List Str)) (t7 : Str) (s2 : Int × Int × Int) (t10 : api_Ledger × Int) (v155 : Int) (x2 : (List api_Write)) (y_ : Bool) (R_ : St → Prop) (hR : (Ret Try.prog glP [] rv5 (.b (.s (.d (.bool y_))))) = R_) : ∀ (m_ : Nat) (last2 : Int) (v161 : Int) (now3 : (List Str)) (now4 : (List api_Write)) (res_ : (Int × Int × (List Str) × (List api_Write)) ⊕ (Bool)) (h : f_law10_LedgerSteps_l39 d t t4 s t7 s2 t10 v155 x2 m_ last2 v161 now3 now4 = some res_) (k_ : List It) (hx : ∀ s_ : Int × Int × (List Str) × (List api_Write), res_ = .inl s_ → W Try.prog glP 224 k_ ⟨lkT [(3, .b (.s (.ptr 3 1 0 0))), (9, .b (.s (.d (.sl (t4.1.map (eL e_api_Write)))))), (13, .b (.s (.d (.str t7)))), (14, .b (.s (.d (.int .i64 s2.1)))), (17, .b (.s (.ptr 17 1 0 0))), (19, .b (.s (.ptr 19 1 0 0))), (20, .b (.s (.d (.int .i64 s_.1)))), (22, .b (.s (.d (.sl (x2.map e_api_Write))))), (153, .b (.s (.d (.sl (t4.1.map (eL e_api_Write)))))), (154, .b (.s (.d (.int .i64 (t4.1.length : Int))))), (155, .b (.s (.d (.int .i64 v155)))), (159, .b (.s (.d (.sl (x2.map e_api_Write))))), (160, .b (.s (.d (.int .i64 (x2.length : Int))))), (161, .b (.s (.d (.int .i64 s_.2.1))))], lkG [(3, ⟨2, [[(.d (.sl (t.Sectors.map eS))), (.d (.sl (t.Dirty.map e_api_Write)))]], false⟩), (17, ⟨6, [[(.d (.sl (t10.1.Disk.Sectors.map eS))), (.d (.sl (t10.1.Disk.Dirty.map e_api_Write))), (.d (.int .i64 t10.1.Half)), (.d (.int .i64 t10.1.Gen)), (.d (.int .i64 t10.1.Used)), (.d (.sl (t10.1.Entries.map eS)))]], false⟩), (19, ⟨2, [[(.d (.sl (s_.2.2.1.map eS))), (.d (.sl (s_.2.2.2.map e_api_Write)))]], false⟩)]⟩ R_) (hr : ∀ z_ : Bool, res_ = .inr z_ → z_ = y_), W Try.prog glP 224 (.c c5l39 :: .lp c5l39 :: .blk 2 :: k_) ⟨lkT [(3, .b (.s (.ptr 3 1 0 0))), (9, .b (.s (.d (.sl (t4.1.map (eL e_api_Write)))))), (13, .b (.s (.d (.str t7)))), (14, .b (.s (.d (.int .i64 s2.1)))), (17, .b (.s (.ptr 17 1 0 0))), (19, .b (.s (.ptr 19 1 0 0))), (20, .b (.s (.d (.int .i64 last2)))), (22, .b (.s (.d (.sl (x2.map e_api_Write))))), (153, .b (.s (.d (.sl (t4.1.map (eL e_api_Write)))))), (154, .b (.s (.d (.int .i64 (t4.1.length : Int))))), (155, .b (.s (.d (.int .i64 v155)))), (159, .b (.s (.d (.sl (x2.map e_api_Write))))), (160, .b (.s (.d (.int .i64 (x2.length : Int))))), (161, .b (.s (.d (.int .i64 v161))))], lkG [(3, ⟨2, [[(.d (.sl (t.Sectors.map eS))), (.d (.sl (t.Dirty.map e_api_Write)))]], false⟩), (17, ⟨6, [[(.d (.sl (t10.1.Disk.Sectors.map eS))), (.d (.sl (t10.1.Disk.Dirty.map e_api_Write))), (.d (.int .i64 t10.1.Half)), (.d (.int .i64 t10.1.Gen)), (.d (.int .i64 t10.1.Used)), (.d (.sl (t10.1.Entries.map eS)))]], false⟩), (19, ⟨2, [[(.d (.sl (now3.map eS))), (.d (.sl (now4.map e_api_Write)))]], false⟩)]⟩ R_ := by
  intro m_; induction m_ with
  | zero => intro last2 v161 now3 now4 res_ h; rw [f_law10_LedgerSteps_l39.eq_1] at h; cases h
  | succ m_ ih =>
    intro last2 v161 now3 now4 res_ h k_ hx hr; rw [f_law10_LedgerSteps_l39.eq_2] at h; refine W.cdef c5l39.eq_1 ?_
    refine .seq ?_
    refine Rw.walk ?_
    simp only [wz, wd, ws, seval, c5r29, semI.eq_10, semI.eq_11, semI.eq_3, semI.eq_5, semI.eq_7, e_api_Ledger, e_api_Disk, e_api_Write]
    refine .seq ?_
    refine .cond (p := (decide (v161 < (x2.length : Int)))) (by first | rfl | simp only [wz, wd, ws, seval]) (fun h1 => ?_) (fun h1 => ?_)
    · rw [ite_t h1] at h
      refine .skip ?_
      refine .seq ?_
      refine .blk ?_
      refine .seq ?_
      refine Rw.walk ?_
      simp only [wz, wd, ws, seval, c5r30, semI.eq_3, semI.eq_5, semI.eq_7, e_api_Ledger, e_api_Disk, e_api_Write]
      obtain ⟨x3, e14, h⟩ := Option.bind_eq_some_iff.1 h
      refine Go1.of (sem_iadr e_api_Write_len e14 (by rfl) (by rfl)) ?_
      simp only [wz, wd, ws, seval, c5r30, semI.eq_3, semI.eq_5, semI.eq_7, e_api_Ledger, e_api_Disk, e_api_Write]
      refine Go1.of (semI.eq_10 ..) ?_
      simp only [wz, wd, ws, seval, c5r30, semI.eq_3, semI.eq_5, semI.eq_7, e_api_Ledger, e_api_Disk, e_api_Write]
      refine Go1.of (semI.eq_11 ..) ?_
      simp only [wz, wd, ws, seval, c5r30, semI.eq_3, semI.eq_5, semI.eq_7, e_api_Ledger, e_api_Disk, e_api_Write]
      refine .seq ?_
      refine .seq ?_
      refine Rw.walk ?_
      simp only [wz, wd, ws, seval, c5r31, semI.eq_10, semI.eq_11, semI.eq_3, semI.eq_5, semI.eq_7, e_api_Ledger, e_api_Disk, e_api_Write]
      repeat (refine And.intro ?_ ?_; · first | omega | (simp only [List.length_append, List.length_cons, List.length_nil] at *; omega) | (intro q; simp only [wz, wd, ws, seval, q]; done))
      refine .cond (p := ((decide (x3.At ≤ last2)) && (decide ((x2.length : Int) > 1)))) (by first | rfl | simp only [wz, wd, ws, seval]) (fun h1 => ?_) (fun h1 => ?_)
      · rw [ite_t h1] at h
        refine .seq ?_
        refine Rw.walk ?_
        simp only [wz, wd, ws, seval, c5r32, semI.eq_10, semI.eq_11, semI.eq_3, semI.eq_5, semI.eq_7, e_api_Ledger, e_api_Disk, e_api_Write]
        obtain rfl := Option.some.inj h; obtain rfl := hr _ rfl
        refine .ret ?_
        rw [← hR]
        simp only [wz, wd, ws, seval, rv5, e_api_Ledger, e_api_Disk, e_api_Write]
      · rw [ite_f h1] at h
        refine .skip ?_
        refine .seq ?_
        refine Rw.walk ?_
        simp only [wz, wd, ws, seval, c5r33, semI.eq_10, semI.eq_11, semI.eq_3, semI.eq_5, semI.eq_7, e_api_Ledger, e_api_Disk, e_api_Write]
        refine .seq ?_
        refine Rw.walk ?_
        simp only [wz, wd, ws, seval, c5r34, semI.eq_10, semI.eq_11, semI.eq_3, semI.eq_5, semI.eq_7, e_api_Ledger, e_api_Disk, e_api_Write]
        refine Go1.of (sem_bsl (enc := e_api_Write) (m := ([x3] : List api_Write)) e_api_Write_len (by rfl) (by rfl) (by rfl) ⟨trivial, trivial⟩) ?_
        simp only [wz, wd, ws, seval, c5r34, semI.eq_10, semI.eq_11, semI.eq_3, semI.eq_5, semI.eq_7, e_api_Ledger, e_api_Disk, e_api_Write]
        obtain ⟨t12, e15, h⟩ := Option.bind_eq_some_iff.1 h
        refine call_fun [179] true ⟨trivial, trivial, trivial, trivial⟩ rfl ?_ (f_disk_Save_ok _ _ _ e15) (fun h => by cases h) (fun i hi e he => coF_get (l := [179]) (by simp only [wz, wd, ws, seval, wi, e_api_Ledger, e_api_Disk, e_api_Write]) i e hi he) ?_
        · simp only [wz, wd, ws, seval, e_api_Ledger, e_api_Disk, e_api_Write, frz.eq_1, er_back]
        simp only [wz, wd, ws, seval, c5r34, semI.eq_10, semI.eq_11, semI.eq_3, semI.eq_5, semI.eq_7, e_api_Ledger, e_api_Disk, e_api_Write, frz.eq_1, er_back]
        refine .seq ?_
        refine .seq ?_
        refine Rw.walk ?_
        simp only [wz, wd, ws, seval, c5r35, semI.eq_10, semI.eq_11, semI.eq_3, semI.eq_5, semI.eq_7, e_api_Ledger, e_api_Disk, e_api_Write, frz.eq_1, er_back]
        refine .cond (p := (t12.2 != 0)) (by first | rfl | simp only [wz, wd, ws, seval]) (fun h1 => ?_) (fun h1 => ?_)
        · rw [ite_t h1] at h
          refine .seq ?_
          refine Rw.walk ?_
          simp only [wz, wd, ws, seval, c5r36, semI.eq_10, semI.eq_11, semI.eq_3, semI.eq_5, semI.eq_7, e_api_Ledger, e_api_Disk, e_api_Write, frz.eq_1, er_back]
          obtain rfl := Option.some.inj h; obtain rfl := hr _ rfl
          refine .ret ?_
          rw [← hR]
          simp only [wz, wd, ws, seval, rv5, e_api_Ledger, e_api_Disk, e_api_Write, frz.eq_1, er_back]
        · rw [ite_f h1] at h
          refine .skip ?_
          refine Rw.walk ?_
          simp only [wz, wd, ws, seval, c5r37, semI.eq_10, semI.eq_11, semI.eq_3, semI.eq_5, semI.eq_7, e_api_Ledger, e_api_Disk, e_api_Write, frz.eq_1, er_back]
          refine .eblk ?_
          refine Rw.walk ?_
          simp only [wz, wd, ws, seval, c5r38, semI.eq_10, semI.eq_11, semI.eq_3, semI.eq_5, semI.eq_7, e_api_Ledger, e_api_Disk, e_api_Write, frz.eq_1, er_back]
          refine .lp ?_
          refine .weak (Imp.co [] _ _ ?_ ?_ ?_ ?_ ?_) (ih x3.At (IntKind.i64.wrap (v161 + 1)) t12.1.Sectors t12.1.Dirty _ h k_ hx hr) <;> simp only [wz, wd, ws, seval, wi, er_nil, e_api_Ledger, e_api_Disk, e_api_Write]
    · rw [ite_f h1] at h
      refine .exit rfl ?_
      obtain rfl := Option.some.inj h
      refine .weak (Imp.co [] _ _ ?_ ?_ ?_ ?_ ?_) (hx _ rfl) <;> simp only [wz, wd, ws, seval, wi, er_nil, e_api_Ledger, e_api_Disk, e_api_Write]
theorem f_law10_LedgerSteps_l41_ok (d : api_Disk) (t : api_Disk) (t4 : (List (List api_Write)) × Int) (s : Int × (List Str) × (List api_Write) × Int × Int × Int × (List Str)) (t7 : Str) (s2 : Int × Int × Int) (t10 : api_Ledger × Int) (y_ : Bool) (R_ : St → Prop) (hR : (Ret Try.prog glP [] rv5 (.b (.s (.d (.bool y_))))) = R_) : ∀ (m_ : Nat) (last : Int) (v155 : Int) (now : (List Str)) (now2 : (List api_Write)) (res_ : (Int × Int × (List Str) × (List api_Write)) ⊕ (Bool)) (h : f_law10_LedgerSteps_l41 d t t4 s t7 s2 t10 m_ last v155 now now2 = some res_) (k_ : List It) (hx : ∀ s_ : Int × Int × (List Str) × (List api_Write), res_ = .inl s_ → W Try.prog glP 224 k_ ⟨lkT [(3, .b (.s (.ptr 3 1 0 0))), (9, .b (.s (.d (.sl (t4.1.map (eL e_api_Write)))))), (13, .b (.s (.d (.str t7)))), (14, .b (.s (.d (.int .i64 s2.1)))), (17, .b (.s (.ptr 17 1 0 0))), (19, .b (.s (.ptr 19 1 0 0))), (20, .b (.s (.d (.int .i64 s_.1)))), (153, .b (.s (.d (.sl (t4.1.map (eL e_api_Write)))))), (154, .b (.s (.d (.int .i64 (t4.1.length : Int))))), (155, .b (.s (.d (.int .i64 s_.2.1))))], lkG [(3, ⟨2, [[(.d (.sl (t.Sectors.map eS))), (.d (.sl (t.Dirty.map e_api_Write)))]], false⟩), (17, ⟨6, [[(.d (.sl (t10.1.Disk.Sectors.map eS))), (.d (.sl (t10.1.Disk.Dirty.map e_api_Write))), (.d (.int .i64 t10.1.Half)), (.d (.int .i64 t10.1.Gen)), (.d (.int .i64 t10.1.Used)), (.d (.sl (t10.1.Entries.map eS)))]], false⟩), (19, ⟨2, [[(.d (.sl (s_.2.2.1.map eS))), (.d (.sl (s_.2.2.2.map e_api_Write)))]], false⟩)]⟩ R_) (hr : ∀ z_ : Bool, res_ = .inr z_ → z_ = y_), W Try.prog glP 224 (.c c5l41 :: .lp c5l41 :: .blk 0 :: k_) ⟨lkT [(3, .b (.s (.ptr 3 1 0 0))), (9, .b (.s (.d (.sl (t4.1.map (eL e_api_Write)))))), (13, .b (.s (.d (.str t7)))), (14, .b (.s (.d (.int .i64 s2.1)))), (17, .b (.s (.ptr 17 1 0 0))), (19, .b (.s (.ptr 19 1 0 0))), (20, .b (.s (.d (.int .i64 last)))), (153, .b (.s (.d (.sl (t4.1.map (eL e_api_Write)))))), (154, .b (.s (.d (.int .i64 (t4.1.length : Int))))), (155, .b (.s (.d (.int .i64 v155))))], lkG [(3, ⟨2, [[(.d (.sl (t.Sectors.map eS))), (.d (.sl (t.Dirty.map e_api_Write)))]], false⟩), (17, ⟨6, [[(.d (.sl (t10.1.Disk.Sectors.map eS))), (.d (.sl (t10.1.Disk.Dirty.map e_api_Write))), (.d (.int .i64 t10.1.Half)), (.d (.int .i64 t10.1.Gen)), (.d (.int .i64 t10.1.Used)), (.d (.sl (t10.1.Entries.map eS)))]], false⟩), (19, ⟨2, [[(.d (.sl (now.map eS))), (.d (.sl (now2.map e_api_Write)))]], false⟩)]⟩ R_ := by
  intro m_; induction m_ with
  | zero => intro last v155 now now2 res_ h; rw [f_law10_LedgerSteps_l41.eq_1] at h; cases h
  | succ m_ ih =>
    intro last v155 now now2 res_ h k_ hx hr; rw [f_law10_LedgerSteps_l41.eq_2] at h; refine W.cdef c5l41.eq_1 ?_
    refine .seq ?_
    refine Rw.walk ?_
    simp only [wz, wd, ws, seval, c5r26, semI.eq_10, semI.eq_11, semI.eq_3, semI.eq_5, semI.eq_7, e_api_Ledger, e_api_Disk, e_api_Write]
    refine .seq ?_
    refine .cond (p := (decide (v155 < (t4.1.length : Int)))) (by first | rfl | simp only [wz, wd, ws, seval]) (fun h1 => ?_) (fun h1 => ?_)
    · rw [ite_t h1] at h
      refine .skip ?_
      refine .seq ?_
      refine .blk ?_
      refine .seq ?_
      refine Rw.walk ?_
      simp only [wz, wd, ws, seval, c5r27, semI.eq_10, semI.eq_11, semI.eq_3, semI.eq_5, semI.eq_7, e_api_Ledger, e_api_Disk, e_api_Write]
      obtain ⟨x2, e13, h⟩ := Option.bind_eq_some_iff.1 h
      refine Go1.of (sem_iadr (eL_len _) e13 (by rfl) (by rfl)) ?_
      simp only [wz, wd, ws, seval, c5r27, semI.eq_10, semI.eq_11, semI.eq_3, semI.eq_5, semI.eq_7, e_api_Ledger, e_api_Disk, e_api_Write]
      refine .seq ?_
      refine Rw.walk ?_
      simp only [wz, wd, ws, seval, c5r28, semI.eq_10, semI.eq_11, semI.eq_3, semI.eq_5, semI.eq_7, e_api_Ledger, e_api_Disk, e_api_Write]
      refine .blk ?_
      obtain ⟨s3, hf, h⟩ := Option.bind_eq_some_iff.1 h
      refine .loop (.weak (Imp.co [] _ _ ?c1 ?c2 ?c3 ?c4 ?c5) (f_law10_LedgerSteps_l39_ok d t t4 s t7 s2 t10 v155 x2 _ _ hR _ _ _ _ _ _ hf _ ?_ ?_))
      case c1 | c2 | c3 | c4 | c5 => simp only [wz, wd, ws, seval, wi, er_nil, e_api_Ledger, e_api_Disk, e_api_Write]
      · intro s4 hs; subst hs; dsimp only at h
        refine .eblk ?_
        refine Rw.walk ?_
        simp only [wz, wd, ws, seval, c5r39, semI.eq_10, semI.eq_11, semI.eq_3, semI.eq_5, semI.eq_7, e_api_Ledger, e_api_Disk, e_api_Write]
        refine .lp ?_
        refine .weak (Imp.co [] _ _ ?_ ?_ ?_ ?_ ?_) (ih s4.1 (IntKind.i64.wrap (v155 + 1)) s4.2.2.1 s4.2.2.2 _ h k_ hx hr) <;> simp only [wz, wd, ws, seval, wi, er_nil, e_api_Ledger, e_api_Disk, e_api_Write]
      · intro z hz; subst hz; dsimp only at h
        exact hr _ (Option.some.inj h).symm
    · rw [ite_f h1] at h
      refine .exit rfl ?_
      obtain rfl := Option.some.inj h
      refine .weak (Imp.co [] _ _ ?_ ?_ ?_ ?_ ?_) (hx _ rfl) <;> simp only [wz, wd, ws, seval, wi, er_nil, e_api_Ledger, e_api_Disk, e_api_Write]
theorem f_law10_LedgerSteps_ok (d : api_Disk) (renew : Bool) (news : (List Str)) (y_ : Bool) (h : f_law10_LedgerSteps d renew news = some y_) : Fun Try.prog glP 5 [.b (.agg ((e_api_Disk d).map Lc.d)), .b (.s (.d (.bool renew))), .b (.s (.d (.sl (news.map eS))))] (.b (.s (.d (.bool y_)))) := by
  refine fun_walk [] Try.func5 Try.ntmps5 cc5 cr5 (by kernel_rfl) (by simp only [List.length_cons, List.length_nil]; decide) ?_
  generalize hR : Ret _ _ _ _ _ = R_
  simp only [wz, wd, ws, seval, e_api_Ledger, e_api_Disk, e_api_Write]
  unfold f_law10_LedgerSteps at h; unfold c5
  refine .seq ?_
  refine Rw.walk ?_
  simp only [wz, wd, ws, seval, c5r0, semI.eq_10, semI.eq_11, semI.eq_3, semI.eq_5, semI.eq_7, e_api_Ledger, e_api_Disk, e_api_Write]
  refine .seq ?_
  refine Rw.walk ?_
  simp only [wz, wd, ws, seval, c5r1, semI.eq_10, semI.eq_11, semI.eq_3, semI.eq_5, semI.eq_7, e_api_Ledger, e_api_Disk, e_api_Write]
  obtain ⟨t, e1, h⟩ := Option.bind_eq_some_iff.1 h
  refine call_fun [] true ⟨trivial, trivial, trivial⟩ rfl ?_ (f_law10_few_ok _ _ e1) (fun h => by cases h) (fun i hi => by cases hi) ?_
  · simp only [wz, wd, ws, seval, e_api_Ledger, e_api_Disk, e_api_Write]
  simp only [wz, wd, ws, seval, c5r1, semI.eq_10, semI.eq_11, semI.eq_3, semI.eq_5, semI.eq_7, e_api_Ledger, e_api_Disk, e_api_Write]
  obtain ⟨t2, e2, h⟩ := Option.bind_eq_some_iff.1 h
  refine call_funO' [] ⟨trivial, trivial, trivial⟩ rfl ?_ (f_law10_texts_ok _ _ e2) rfl (.inl rfl) ?_
  · simp only [wz, wd, ws, seval, e_api_Ledger, e_api_Disk, e_api_Write]
  simp only [wz, wd, ws, seval, c5r1, semI.eq_10, semI.eq_11, semI.eq_3, semI.eq_5, semI.eq_7, e_api_Ledger, e_api_Disk, e_api_Write]
  refine .seq ?_
  refine Rw.walk ?_
  simp only [wz, wd, ws, seval, c5r2, semI.eq_10, semI.eq_11, semI.eq_3, semI.eq_5, semI.eq_7, e_api_Ledger, e_api_Disk, e_api_Write]
  obtain ⟨t3, e3, h⟩ := Option.bind_eq_some_iff.1 h
  refine call_fun [] true ⟨trivial, trivial, trivial⟩ rfl ?_ (f_ref10_Open_ok _ _ e3) (fun h => by cases h) (fun i hi => by cases hi) ?_
  · simp only [wz, wd, ws, seval, e_api_Ledger, e_api_Disk, e_api_Write]
  simp only [wz, wd, ws, seval, c5r2, semI.eq_10, semI.eq_11, semI.eq_3, semI.eq_5, semI.eq_7, e_api_Ledger, e_api_Disk, e_api_Write]
  refine .seq ?_
  refine Rw.walk ?_
  simp only [wz, wd, ws, seval, c5r3, semI.eq_10, semI.eq_11, semI.eq_3, semI.eq_5, semI.eq_7, e_api_Ledger, e_api_Disk, e_api_Write]
  obtain ⟨t4, e4, h⟩ := Option.bind_eq_some_iff.1 h
  refine call_fun [31] true ⟨trivial, trivial, trivial, trivial, trivial⟩ rfl ?_ (f_ledger_Steps_ok _ _ _ _ e4) (fun h => by cases h) (fun i hi e he => coF_get (l := [31]) (by simp only [wz, wd, ws, seval, wi, e_api_Ledger, e_api_Disk, e_api_Write]) i e hi he) ?_
  · simp only [wz, wd, ws, seval, e_api_Ledger, e_api_Disk, e_api_Write, frz.eq_1, er_back]
  simp only [wz, wd, ws, seval, c5r3, semI.eq_10, semI.eq_11, semI.eq_3, semI.eq_5, semI.eq_7, e_api_Ledger, e_api_Disk, e_api_Write, frz.eq_1, er_back]
  refine .seq ?_
  refine Rw.walk ?_
  simp only [wz, wd, ws, seval, c5r4, semI.eq_10, semI.eq_11, semI.eq_3, semI.eq_5, semI.eq_7, e_api_Ledger, e_api_Disk, e_api_Write, frz.eq_1, er_back]
  refine .seq ?_
  refine Rw.walk ?_
  simp only [wz, wd, ws, seval, c5r5, semI.eq_10, semI.eq_11, semI.eq_3, semI.eq_5, semI.eq_7, e_api_Ledger, e_api_Disk, e_api_Write, frz.eq_1, er_back]
  refine .seq ?_
  obtain ⟨s, hf, h⟩ := Option.bind_eq_some_iff.1 h
  refine W.cut1 ⟨lkT [(1, .b (.s (.d (.bool renew)))), (2, .b (.s (.own 31 t2.length))), (3, .b (.s (.ptr 3 1 0 0))), (7, .b (.s (.ptr 7 1 0 0))), (8, .b (.s (.d (.int .i64 t3.2)))), (9, .b (.s (.d (.sl (t4.1.map (eL e_api_Write)))))), (10, .b (.s (.d (.int .i64 t4.2)))), (11, .b (.s (.ptr 11 1 0 0))), (12, .b (.s (.d (.int .i64 s.1))))], lkG [(31, ⟨1, er eS t2, true⟩), (3, ⟨2, [[(.d (.sl (t.Sectors.map eS))), (.d (.sl (t.Dirty.map e_api_Write)))]], false⟩), (7, ⟨6, [[(.d (.sl (t3.1.Disk.Sectors.map eS))), (.d (.sl (t3.1.Disk.Dirty.map e_api_Write))), (.d (.int .i64 t3.1.Half)), (.d (.int .i64 t3.1.Gen)), (.d (.int .i64 t3.1.Used)), (.d (.sl (t3.1.Entries.map eS)))]], false⟩), (11, ⟨6, [[(.d (.sl (s.2.1.map eS))), (.d (.sl (s.2.2.1.map e_api_Write))), (.d (.int .i64 s.2.2.2.1)), (.d (.int .i64 s.2.2.2.2.1)), (.d (.int .i64 s.2.2.2.2.2.1)), (.d (.sl (s.2.2.2.2.2.2.map eS)))]], false⟩)]⟩ ?_ (fun tail => ?_)
  · skip
    refine .seq ?_
    refine .seq ?_
    refine Rw.walk ?_
    simp only [wz, wd, ws, seval, c5r9, semI.eq_10, semI.eq_11, semI.eq_3, semI.eq_5, semI.eq_7, e_api_Ledger, e_api_Disk, e_api_Write, frz.eq_1, er_back]
    obtain ⟨t5, e5, h⟩ := Option.bind_eq_some_iff.1 h
    refine call_funG [] rfl (by simp only [wz, wd, ws, seval]) rfl ?_ (fun q => (f_law10_alive_ok _ (gx_iff e5 (by simpa using q)))) rfl (fun i hi => by cases hi) ?_
    · simp only [wz, wd, ws, seval, e_api_Ledger, e_api_Disk, e_api_Write, frz.eq_1, er_back]
    simp only [wz, wd, ws, seval, c5r9, semI.eq_10, semI.eq_11, semI.eq_3, semI.eq_5, semI.eq_7, e_api_Ledger, e_api_Disk, e_api_Write, frz.eq_1, er_back]
    repeat (refine And.intro ?_ ?_; · first | omega | (simp only [List.length_append, List.length_cons, List.length_nil] at *; omega) | (intro q; simp only [wz, wd, ws, seval, q]; done))
    refine .cond (p := ((t4.2 != s.1) || (!t5))) (by first | rfl | simp only [wz, wd, ws, seval]) (fun h1 => ?_) (fun h1 => ?_)
    · rw [ite_t h1] at h
      refine .seq ?_
      refine Rw.walk ?_
      simp only [wz, wd, ws, seval, c5r10, semI.eq_10, semI.eq_11, semI.eq_3, semI.eq_5, semI.eq_7, e_api_Ledger, e_api_Disk, e_api_Write, frz.eq_1, er_back]
      obtain rfl := Option.some.inj h
      refine .ret ?_
      rw [← hR]
      simp only [wz, wd, ws, seval, rv5, e_api_Ledger, e_api_Disk, e_api_Write, frz.eq_1, er_back]
    · rw [ite_f h1] at h
      refine .skip ?_
      refine .seq ?_
      refine .seq ?_
      refine Rw.walk ?_
      simp only [wz, wd, ws, seval, c5r11, semI.eq_10, semI.eq_11, semI.eq_3, semI.eq_5, semI.eq_7, e_api_Ledger, e_api_Disk, e_api_Write, frz.eq_1, er_back]
      refine .cond (p := (t3.2 != 0)) (by first | rfl | simp only [wz, wd, ws, seval]) (fun h1 => ?_) (fun h1 => ?_)
      · rw [ite_t h1] at h
        refine .seq ?_
        refine Rw.walk ?_
        simp only [wz, wd, ws, seval, c5r12, semI.eq_10, semI.eq_11, semI.eq_3, semI.eq_5, semI.eq_7, e_api_Ledger, e_api_Disk, e_api_Write, frz.eq_1, er_back]
        repeat (refine And.intro ?_ ?_; · first | omega | (simp only [List.length_append, List.length_cons, List.length_nil] at *; omega) | (intro q; simp only [wz, wd, ws, seval, q]; done))
        obtain rfl := Option.some.inj h
        refine .ret ?_
        rw [← hR]
        simp only [wz, wd, ws, seval, rv5, e_api_Ledger, e_api_Disk, e_api_Write, frz.eq_1, er_back]
      · rw [ite_f h1] at h
        refine .skip ?_
        refine .seq ?_
        refine .seq ?_
        refine Rw.walk ?_
        simp only [wz, wd, ws, seval, c5r13, semI.eq_10, semI.eq_11, semI.eq_3, semI.eq_5, semI.eq_7, e_api_Ledger, e_api_Disk, e_api_Write, frz.eq_1, er_back]
        obtain ⟨t6, e6, h⟩ := Option.bind_eq_some_iff.1 h
        refine call_fun [31] false ⟨trivial, trivial, trivial⟩ rfl ?_ (f_ref01_May_ok _ _ e6) (fun _ => rfl) (fun i hi e he => coF_get (l := [31]) (by simp only [wz, wd, ws, seval, wi, e_api_Ledger, e_api_Disk, e_api_Write]) i e hi he) ?_
        · simp only [wz, wd, ws, seval, e_api_Ledger, e_api_Disk, e_api_Write, frz.eq_1, er_back]
        simp only [wz, wd, ws, seval, c5r13, semI.eq_10, semI.eq_11, semI.eq_3, semI.eq_5, semI.eq_7, e_api_Ledger, e_api_Disk, e_api_Write, frz.eq_1, er_back]
        refine .cond (p := (!t6)) (by first | rfl | simp only [wz, wd, ws, seval]) (fun h1 => ?_) (fun h1 => ?_)
        · rw [ite_t h1] at h
          refine .seq ?_
          refine Rw.walk ?_
          simp only [wz, wd, ws, seval, c5r14, semI.eq_10, semI.eq_11, semI.eq_3, semI.eq_5, semI.eq_7, e_api_Ledger, e_api_Disk, e_api_Write, frz.eq_1, er_back]
          repeat (refine And.intro ?_ ?_; · first | omega | (simp only [List.length_append, List.length_cons, List.length_nil] at *; omega) | (intro q; simp only [wz, wd, ws, seval, q]; done))
          obtain rfl := Option.some.inj h
          refine .ret ?_
          rw [← hR]
          simp only [wz, wd, ws, seval, rv5, e_api_Ledger, e_api_Disk, e_api_Write, frz.eq_1, er_back]
        · rw [ite_f h1] at h
          refine .skip ?_
          refine .seq ?_
          refine Rw.walk ?_
          simp only [wz, wd, ws, seval, c5r15, semI.eq_10, semI.eq_11, semI.eq_3, semI.eq_5, semI.eq_7, e_api_Ledger, e_api_Disk, e_api_Write, frz.eq_1, er_back]
          obtain ⟨t7, e7, h⟩ := Option.bind_eq_some_iff.1 h
          refine call_fun [31] false ⟨trivial, trivial, trivial⟩ rfl ?_ (f_ref01_Bind_ok _ _ e7) (fun _ => rfl) (fun i hi e he => coF_get (l := [31]) (by simp only [wz, wd, ws, seval, wi, e_api_Ledger, e_api_Disk, e_api_Write]) i e hi he) ?_
          · simp only [wz, wd, ws, seval, e_api_Ledger, e_api_Disk, e_api_Write, frz.eq_1, er_back]
          simp only [wz, wd, ws, seval, c5r15, semI.eq_10, semI.eq_11, semI.eq_3, semI.eq_5, semI.eq_7, e_api_Ledger, e_api_Disk, e_api_Write, frz.eq_1, er_back]
          refine .seq ?_
          refine RwD.walk ?_
          simp only [wz, wd, ws, seval, c5r16, semI.eq_10, semI.eq_11, semI.eq_3, semI.eq_5, semI.eq_7, e_api_Ledger, e_api_Disk, e_api_Write, frz.eq_1, er_back]
          refine .seq ?_
          obtain ⟨s2, hf, h⟩ := Option.bind_eq_some_iff.1 h
          refine W.cut1 ⟨lkT [(3, .b (.s (.ptr 3 1 0 0))), (9, .b (.s (.d (.sl (t4.1.map (eL e_api_Write)))))), (10, .b (.s (.d (.int .i64 t4.2)))), (11, .b (.s (.ptr 11 1 0 0))), (13, .b (.s (.d (.str t7)))), (14, .b (.s (.d (.int .i64 s2.1)))), (15, .b (.s (.d (.int .i64 s2.2.1)))), (16, .b (.s (.d (.int .i64 s2.2.2))))], lkG [(3, ⟨2, [[(.d (.sl (t.Sectors.map eS))), (.d (.sl (t.Dirty.map e_api_Write)))]], false⟩), (11, ⟨6, [[(.d (.sl (s.2.1.map eS))), (.d (.sl (s.2.2.1.map e_api_Write))), (.d (.int .i64 s.2.2.2.1)), (.d (.int .i64 s.2.2.2.2.1)), (.d (.int .i64 s.2.2.2.2.2.1)), (.d (.sl (s.2.2.2.2.2.2.map eS)))]], false⟩)]⟩ ?_ (fun tail => ?_)
          · skip
            refine .seq ?_
            refine .seq ?_
            refine Rw.walk ?_
            simp only [wz, wd, ws, seval, c5r19, semI.eq_10, semI.eq_11, semI.eq_3, semI.eq_5, semI.eq_7, e_api_Ledger, e_api_Disk, e_api_Write, frz.eq_1, er_back]
            obtain ⟨t8, e8, h⟩ := Option.bind_eq_some_iff.1 h
            refine call_fun [] false ⟨trivial, trivial, trivial, trivial⟩ rfl ?_ (f_ref10_Room_ok _ _ _ e8) (fun _ => rfl) (fun i hi => by cases hi) ?_
            · simp only [wz, wd, ws, seval, e_api_Ledger, e_api_Disk, e_api_Write, frz.eq_1, er_back]
            simp only [wz, wd, ws, seval, c5r19, semI.eq_10, semI.eq_11, semI.eq_3, semI.eq_5, semI.eq_7, e_api_Ledger, e_api_Disk, e_api_Write, frz.eq_1, er_back]
            repeat (refine And.intro ?_ ?_; · first | omega | (simp only [List.length_append, List.length_cons, List.length_nil] at *; omega) | (intro q; simp only [wz, wd, ws, seval, q]; done))
            refine .cond (p := ((decide ((t7.length : Int) > (IntKind.i64.wrap ((t8.length : Int) - s2.2.2)))) || (decide (s2.2.1 > 1099511627776)))) (by first | rfl | simp only [wz, wd, ws, seval]) (fun h1 => ?_) (fun h1 => ?_)
            · rw [ite_t h1] at h
              refine .seq ?_
              refine Rw.walk ?_
              simp only [wz, wd, ws, seval, c5r20, semI.eq_10, semI.eq_11, semI.eq_3, semI.eq_5, semI.eq_7, e_api_Ledger, e_api_Disk, e_api_Write, frz.eq_1, er_back]
              repeat (refine And.intro ?_ ?_; · first | omega | (simp only [List.length_append, List.length_cons, List.length_nil] at *; omega) | (intro q; simp only [wz, wd, ws, seval, q]; done))
              obtain rfl := Option.some.inj h
              refine .ret ?_
              rw [← hR]
              simp only [wz, wd, ws, seval, rv5, e_api_Ledger, e_api_Disk, e_api_Write, frz.eq_1, er_back]
            · rw [ite_f h1] at h
              refine .skip ?_
              refine .seq ?_
              refine Rw.walk ?_
              simp only [wz, wd, ws, seval, c5r21, semI.eq_10, semI.eq_11, semI.eq_3, semI.eq_5, semI.eq_7, e_api_Ledger, e_api_Disk, e_api_Write, frz.eq_1, er_back]
              obtain ⟨t9, e9, h⟩ := Option.bind_eq_some_iff.1 h
              refine call_fun [] true ⟨trivial, trivial, trivial, trivial, trivial, trivial, trivial⟩ rfl ?_ (f_ref10_With_ok _ _ _ _ _ _ e9) (fun h => by cases h) (fun i hi => by cases hi) ?_
              · simp only [wz, wd, ws, seval, e_api_Ledger, e_api_Disk, e_api_Write, frz.eq_1, er_back]
              simp only [wz, wd, ws, seval, c5r21, semI.eq_10, semI.eq_11, semI.eq_3, semI.eq_5, semI.eq_7, e_api_Ledger, e_api_Disk, e_api_Write, frz.eq_1, er_back]
              obtain ⟨t10, e10, h⟩ := Option.bind_eq_some_iff.1 h
              refine call_fun [] true ⟨trivial, trivial, trivial⟩ rfl ?_ (f_ref10_Open_ok _ _ e10) (fun h => by cases h) (fun i hi => by cases hi) ?_
              · simp only [wz, wd, ws, seval, e_api_Ledger, e_api_Disk, e_api_Write, frz.eq_1, er_back]
              simp only [wz, wd, ws, seval, c5r21, semI.eq_10, semI.eq_11, semI.eq_3, semI.eq_5, semI.eq_7, e_api_Ledger, e_api_Disk, e_api_Write, frz.eq_1, er_back]
              refine .seq ?_
              refine .seq ?_
              refine Rw.walk ?_
              simp only [wz, wd, ws, seval, c5r22, semI.eq_10, semI.eq_11, semI.eq_3, semI.eq_5, semI.eq_7, e_api_Ledger, e_api_Disk, e_api_Write, frz.eq_1, er_back]
              repeat (refine And.intro ?_ ?_; · first | omega | (simp only [List.length_append, List.length_cons, List.length_nil] at *; omega) | (intro q; simp only [wz, wd, ws, seval, q]; done))
              refine call_alt (v := .b (.agg [(.d (.sl (s.2.1.map eS))), (.d (.sl (s.2.2.1.map e_api_Write))), (.d (.int .i64 s.2.2.2.1)), (.d (.int .i64 s.2.2.2.2.1)), (.d (.int .i64 s.2.2.2.2.2.1)), (.d (.sl (s.2.2.2.2.2.2.map eS)))])) rfl rfl (by simp only [wz, wd, ws, seval]) (fun q => ⟨_, by simp only [wz, wd, ws, seval, semI.eq_10, e_api_Ledger, e_api_Disk, e_api_Write, frz.eq_1, er_back], trivial⟩) ?_
              simp only [wz, wd, ws, seval, c5r22, semI.eq_10, semI.eq_11, semI.eq_3, semI.eq_5, semI.eq_7, e_api_Ledger, e_api_Disk, e_api_Write, frz.eq_1, er_back]
              refine call_alt (v := .b (.agg [(.d (.sl (t10.1.Disk.Sectors.map eS))), (.d (.sl (t10.1.Disk.Dirty.map e_api_Write))), (.d (.int .i64 t10.1.Half)), (.d (.int .i64 t10.1.Gen)), (.d (.int .i64 t10.1.Used)), (.d (.sl (t10.1.Entries.map eS)))])) rfl rfl (by simp only [wz, wd, ws, seval]) (fun q => ⟨_, by simp only [wz, wd, ws, seval, semI.eq_10, e_api_Ledger, e_api_Disk, e_api_Write, frz.eq_1, er_back], trivial⟩) ?_
              simp only [wz, wd, ws, seval, c5r22, semI.eq_10, semI.eq_11, semI.eq_3, semI.eq_5, semI.eq_7, e_api_Ledger, e_api_Disk, e_api_Write, frz.eq_1, er_back]
              obtain ⟨t11, e11, h⟩ := Option.bind_eq_some_iff.1 h
              refine call_funG [] rfl (by simp only [wz, wd, ws, seval]) rfl ?_ (fun q => (f_ref10_Like_ok _ _ _ (gx_iff e11 (by simpa using q)))) rfl (fun i hi => by cases hi) ?_
              · simp only [wz, wd, ws, seval, e_api_Ledger, e_api_Disk, e_api_Write, frz.eq_1, er_back]
              simp only [wz, wd, ws, seval, c5r22, semI.eq_10, semI.eq_11, semI.eq_3, semI.eq_5, semI.eq_7, e_api_Ledger, e_api_Disk, e_api_Write, frz.eq_1, er_back]
              repeat (refine And.intro ?_ ?_; · first | omega | (simp only [List.length_append, List.length_cons, List.length_nil] at *; omega) | (intro q; simp only [wz, wd, ws, seval, q]; done))
              obtain ⟨x, e12, h⟩ := Option.bind_eq_some_iff.1 h
              refine call_alt (v := .b (.s (.d (.ref [(.sl (x.map e_api_Write))] 0)))) rfl rfl (by simp only [wz, wd, ws, seval]) (fun q => ⟨_, sem_iadr (enc := (eL e_api_Write)) (l := t4.1) (eL_len _) (gx_iff e12 (by simpa using q)) rfl rfl, trivial⟩) ?_
              simp only [wz, wd, ws, seval, c5r22, semI.eq_10, semI.eq_11, semI.eq_3, semI.eq_5, semI.eq_7, e_api_Ledger, e_api_Disk, e_api_Write, frz.eq_1, er_back]
              refine call_alt (v := .b (.s (.d (.sl (x.map e_api_Write))))) rfl rfl (by simp only [wz, wd, ws, seval]) (fun q => ⟨_, by simp only [wz, wd, ws, seval, semI.eq_10, e_api_Ledger, e_api_Disk, e_api_Write, frz.eq_1, er_back], trivial⟩) ?_
              simp only [wz, wd, ws, seval, c5r22, semI.eq_10, semI.eq_11, semI.eq_3, semI.eq_5, semI.eq_7, e_api_Ledger, e_api_Disk, e_api_Write, frz.eq_1, er_back]
              repeat (refine And.intro ?_ ?_; · first | omega | (simp only [List.length_append, List.length_cons, List.length_nil] at *; omega) | (intro q; simp only [wz, wd, ws, seval, q]; done))
              refine .cond (p := (((((t4.2 != 0) || (t10.2 != 0)) || (!t11)) || ((t4.1.length : Int) != 2)) || ((x.length : Int) != 1))) (by first | rfl | simp only [wz, wd, ws, seval]) (fun h1 => ?_) (fun h1 => ?_)
              · rw [ite_t h1] at h
                refine .seq ?_
                refine Rw.walk ?_
                simp only [wz, wd, ws, seval, c5r23, semI.eq_10, semI.eq_11, semI.eq_3, semI.eq_5, semI.eq_7, e_api_Ledger, e_api_Disk, e_api_Write, frz.eq_1, er_back]
                obtain rfl := Option.some.inj h
                refine .ret ?_
                rw [← hR]
                simp only [wz, wd, ws, seval, rv5, e_api_Ledger, e_api_Disk, e_api_Write, frz.eq_1, er_back]
              · rw [ite_f h1] at h
                refine .skip ?_
                refine .seq ?_
                refine Rw.walk ?_
                simp only [wz, wd, ws, seval, c5r24, semI.eq_10, semI.eq_11, semI.eq_3, semI.eq_5, semI.eq_7, e_api_Ledger, e_api_Disk, e_api_Write, frz.eq_1, er_back]
                refine .seq ?_
                refine .seq ?_
                refine Rw.walk ?_
                simp only [wz, wd, ws, seval, c5r25, semI.eq_10, semI.eq_11, semI.eq_3, semI.eq_5, semI.eq_7, e_api_Ledger, e_api_Disk, e_api_Write, frz.eq_1, er_back]
                refine .blk ?_
                obtain ⟨s3, hf, h⟩ := Option.bind_eq_some_iff.1 h
                refine .loop (.weak (Imp.co [] _ _ ?c1 ?c2 ?c3 ?c4 ?c5) (f_law10_LedgerSteps_l41_ok d t t4 s t7 s2 t10 _ _ hR _ _ _ _ _ _ hf _ ?_ ?_))
                case c1 | c2 | c3 | c4 | c5 => simp only [wz, wd, ws, seval, wi, er_nil, e_api_Ledger, e_api_Disk, e_api_Write]
                · intro s4 hs; subst hs; dsimp only at h
                  refine .seq ?_
                  refine Rw.walk ?_
                  simp only [wz, wd, ws, seval, c5r40, semI.eq_10, semI.eq_11, semI.eq_3, semI.eq_5, semI.eq_7, e_api_Ledger, e_api_Disk, e_api_Write]
                  obtain ⟨t12, e16, h⟩ := Option.bind_eq_some_iff.1 h
                  refine call_fun [] true ⟨trivial, trivial, trivial⟩ rfl ?_ (f_disk_Flush_ok _ _ e16) (fun h => by cases h) (fun i hi => by cases hi) ?_
                  · simp only [wz, wd, ws, seval, e_api_Ledger, e_api_Disk, e_api_Write]
                  simp only [wz, wd, ws, seval, c5r40, semI.eq_10, semI.eq_11, semI.eq_3, semI.eq_5, semI.eq_7, e_api_Ledger, e_api_Disk, e_api_Write]
                  refine .seq ?_
                  refine RwD.walk ?_
                  simp only [wz, wd, ws, seval, c5r41, semI.eq_10, semI.eq_11, semI.eq_3, semI.eq_5, semI.eq_7, e_api_Ledger, e_api_Disk, e_api_Write]
                  refine call_alt (v := .b (.agg [(.d (.sl (t12.1.Sectors.map eS))), (.d (.sl (t12.1.Dirty.map e_api_Write)))])) rfl rfl (by simp only [wz, wd, ws, seval]) (fun q => ⟨_, by simp only [wz, wd, ws, seval, semI.eq_10, e_api_Ledger, e_api_Disk, e_api_Write], trivial⟩) ?_
                  simp only [wz, wd, ws, seval, c5r41, semI.eq_10, semI.eq_11, semI.eq_3, semI.eq_5, semI.eq_7, e_api_Ledger, e_api_Disk, e_api_Write]
                  refine call_alt (v := .b (.agg [(.d (.sl (t10.1.Disk.Sectors.map eS))), (.d (.sl (t10.1.Disk.Dirty.map e_api_Write)))])) rfl rfl (by simp only [wz, wd, ws, seval]) (fun q => ⟨_, by simp only [wz, wd, ws, seval, semI.eq_10, e_api_Ledger, e_api_Disk, e_api_Write], trivial⟩) ?_
                  simp only [wz, wd, ws, seval, c5r41, semI.eq_10, semI.eq_11, semI.eq_3, semI.eq_5, semI.eq_7, e_api_Ledger, e_api_Disk, e_api_Write]
                  obtain ⟨t13, e17, h⟩ := Option.bind_eq_some_iff.1 h
                  refine call_funG [] rfl (by simp only [wz, wd, ws, seval]) rfl ?_ (fun q => (f_ref09_Like_ok _ _ _ (gx_iff e17 (by simpa using q)))) rfl (fun i hi => by cases hi) ?_
                  · simp only [wz, wd, ws, seval, e_api_Ledger, e_api_Disk, e_api_Write]
                  simp only [wz, wd, ws, seval, c5r41, semI.eq_10, semI.eq_11, semI.eq_3, semI.eq_5, semI.eq_7, e_api_Ledger, e_api_Disk, e_api_Write]
                  repeat (refine And.intro ?_ ?_; · first | omega | (simp only [List.length_append, List.length_cons, List.length_nil] at *; omega) | (intro q; simp only [wz, wd, ws, seval, q]; done))
                  obtain ⟨x2, e18, h⟩ := Option.bind_eq_some_iff.1 h
                  refine call_alt (v := .b (.s (.d (.ref [(.sl (x2.map e_api_Write))] 0)))) rfl rfl (by simp only [wz, wd, ws, seval]) (fun q => ⟨_, sem_iadr (enc := (eL e_api_Write)) (l := t4.1) (eL_len _) (gx_iff e18 (by simpa using q)) rfl rfl, trivial⟩) ?_
                  simp only [wz, wd, ws, seval, c5r41, semI.eq_10, semI.eq_11, semI.eq_3, semI.eq_5, semI.eq_7, e_api_Ledger, e_api_Disk, e_api_Write]
                  refine call_alt (v := .b (.s (.d (.sl (x2.map e_api_Write))))) rfl rfl (by simp only [wz, wd, ws, seval]) (fun q => ⟨_, by simp only [wz, wd, ws, seval, semI.eq_10, e_api_Ledger, e_api_Disk, e_api_Write], trivial⟩) ?_
                  simp only [wz, wd, ws, seval, c5r41, semI.eq_10, semI.eq_11, semI.eq_3, semI.eq_5, semI.eq_7, e_api_Ledger, e_api_Disk, e_api_Write]
                  obtain ⟨x3, e19, h⟩ := Option.bind_eq_some_iff.1 h
                  refine call_alt (v := .b (.s (.d (.ref [(.int .i64 x3.At), (.str x3.Data)] 0)))) rfl rfl (by simp only [wz, wd, ws, seval]) (fun q => ⟨_, sem_iadr (enc := e_api_Write) (l := x2) e_api_Write_len (gx_iff e19 (by simpa using q)) rfl rfl, trivial⟩) ?_
                  simp only [wz, wd, ws, seval, c5r41, semI.eq_10, semI.eq_11, semI.eq_3, semI.eq_5, semI.eq_7, e_api_Ledger, e_api_Disk, e_api_Write]
                  refine call_alt (v := .b (.s (.d (.int .i64 x3.At)))) rfl rfl (by simp only [wz, wd, ws, seval]) (fun q => ⟨_, by simp only [wz, wd, ws, seval, semI.eq_10, e_api_Ledger, e_api_Disk, e_api_Write], trivial⟩) ?_
                  simp only [wz, wd, ws, seval, c5r41, semI.eq_10, semI.eq_11, semI.eq_3, semI.eq_5, semI.eq_7, e_api_Ledger, e_api_Disk, e_api_Write]
                  refine call_alt (v := .b (.agg [(.d (.sl (t.Sectors.map eS))), (.d (.sl (t.Dirty.map e_api_Write)))])) rfl rfl (by simp only [wz, wd, ws, seval]) (fun q => ⟨_, by simp only [wz, wd, ws, seval, semI.eq_10, e_api_Ledger, e_api_Disk, e_api_Write], trivial⟩) ?_
                  simp only [wz, wd, ws, seval, c5r41, semI.eq_10, semI.eq_11, semI.eq_3, semI.eq_5, semI.eq_7, e_api_Ledger, e_api_Disk, e_api_Write]
                  obtain ⟨t14, e20, h⟩ := Option.bind_eq_some_iff.1 h
                  refine call_funG [] rfl (by simp only [wz, wd, ws, seval]) rfl ?_ (fun q => (f_ref10_At_ok _ _ _ (gx_iff e20 (by simpa using q)))) rfl (fun i hi => by cases hi) ?_
                  · simp only [wz, wd, ws, seval, e_api_Ledger, e_api_Disk, e_api_Write]
                  simp only [wz, wd, ws, seval, c5r41, semI.eq_10, semI.eq_11, semI.eq_3, semI.eq_5, semI.eq_7, e_api_Ledger, e_api_Disk, e_api_Write]
                  repeat (refine And.intro ?_ ?_; · first | omega | (simp only [List.length_append, List.length_cons, List.length_nil] at *; omega) | (intro q; simp only [wz, wd, ws, seval, q]; done))
                  obtain ⟨x4, e21, h⟩ := Option.bind_eq_some_iff.1 h
                  refine call_alt (v := .b (.s (.d (.ref [(.sl (x4.map e_api_Write))] 0)))) rfl rfl (by simp only [wz, wd, ws, seval]) (fun q => ⟨_, sem_iadr (enc := (eL e_api_Write)) (l := t4.1) (eL_len _) (gx_iff e21 (by simpa using q)) rfl rfl, trivial⟩) ?_
                  simp only [wz, wd, ws, seval, c5r41, semI.eq_10, semI.eq_11, semI.eq_3, semI.eq_5, semI.eq_7, e_api_Ledger, e_api_Disk, e_api_Write]
                  refine call_alt (v := .b (.s (.d (.sl (x4.map e_api_Write))))) rfl rfl (by simp only [wz, wd, ws, seval]) (fun q => ⟨_, by simp only [wz, wd, ws, seval, semI.eq_10, e_api_Ledger, e_api_Disk, e_api_Write], trivial⟩) ?_
                  simp only [wz, wd, ws, seval, c5r41, semI.eq_10, semI.eq_11, semI.eq_3, semI.eq_5, semI.eq_7, e_api_Ledger, e_api_Disk, e_api_Write]
                  repeat (refine And.intro ?_ ?_; · first | omega | (simp only [List.length_append, List.length_cons, List.length_nil] at *; omega) | (intro q; simp only [wz, wd, ws, seval, q]; done))
                  obtain rfl := Option.some.inj h
                  refine .ret ?_
                  rw [← hR]
                  simp only [wz, wd, ws, seval, rv5, e_api_Ledger, e_api_Disk, e_api_Write]
                · intro z hz; subst hz; dsimp only at h
                  exact Option.some.inj h
          replace h := hf
          refine .seq ?_
          refine Rw.walk ?_
          simp only [wz, wd, ws, seval, c5r17, semI.eq_10, semI.eq_11, semI.eq_3, semI.eq_5, semI.eq_7, e_api_Ledger, e_api_Disk, e_api_Write, frz.eq_1, er_back]
          refine .cond (p := renew) (by first | rfl | simp only [wz, wd, ws, seval]) (fun h1 => ?_) (fun h1 => ?_)
          · rw [ite_t h1] at h
            refine RwD.walk ?_
            simp only [wz, wd, ws, seval, c5r18, semI.eq_10, semI.eq_11, semI.eq_3, semI.eq_5, semI.eq_7, e_api_Ledger, e_api_Disk, e_api_Write, frz.eq_1, er_back]
            obtain rfl := Option.some.inj h
            refine .weak (Imp.co [] _ _ ?_ ?_ ?_ ?_ ?_) (tail) <;> simp only [wz, wd, ws, seval, wi, er_nil, e_api_Ledger, e_api_Disk, e_api_Write]
          · rw [ite_f h1] at h
            refine .skip ?_
            obtain rfl := Option.some.inj h
            refine .weak (Imp.co [] _ _ ?_ ?_ ?_ ?_ ?_) (tail) <;> simp only [wz, wd, ws, seval, wi, er_nil, e_api_Ledger, e_api_Disk, e_api_Write]
  replace h := hf
  refine .seq ?_
  refine Rw.walk ?_
  simp only [wz, wd, ws, seval, c5r6, semI.eq_10, semI.eq_11, semI.eq_3, semI.eq_5, semI.eq_7, e_api_Ledger, e_api_Disk, e_api_Write, frz.eq_1, er_back]
  refine .cond (p := renew) (by first | rfl | simp only [wz, wd, ws, seval]) (fun h1 => ?_) (fun h1 => ?_)
  · rw [ite_t h1] at h
    refine Rw.walk ?_
    simp only [wz, wd, ws, seval, c5r7, semI.eq_10, semI.eq_11, semI.eq_3, semI.eq_5, semI.eq_7, e_api_Ledger, e_api_Disk, e_api_Write, frz.eq_1, er_back]
    obtain ⟨t5, e22, h⟩ := Option.bind_eq_some_iff.1 h
    refine call_fun [31] true ⟨trivial, trivial, trivial, trivial⟩ rfl ?_ (f_ledger_Renew_ok _ _ _ e22) (fun h => by cases h) (fun i hi e he => coF_get (l := [31]) (by simp only [wz, wd, ws, seval, wi, e_api_Ledger, e_api_Disk, e_api_Write]) i e hi he) ?_
    · simp only [wz, wd, ws, seval, e_api_Ledger, e_api_Disk, e_api_Write, frz.eq_1, er_back]
    simp only [wz, wd, ws, seval, c5r7, semI.eq_10, semI.eq_11, semI.eq_3, semI.eq_5, semI.eq_7, e_api_Ledger, e_api_Disk, e_api_Write, frz.eq_1, er_back]
    obtain rfl := Option.some.inj h
    refine .weak (Imp.co [] _ _ ?_ ?_ ?_ ?_ ?_) (tail) <;> simp only [wz, wd, ws, seval, wi, er_nil, e_api_Ledger, e_api_Disk, e_api_Write]
  · rw [ite_f h1] at h
    refine Rw.walk ?_
    simp only [wz, wd, ws, seval, c5r8, semI.eq_10, semI.eq_11, semI.eq_3, semI.eq_5, semI.eq_7, e_api_Ledger, e_api_Disk, e_api_Write, frz.eq_1, er_back]
    obtain ⟨t5, e23, h⟩ := Option.bind_eq_some_iff.1 h
    refine call_fun [31] true ⟨trivial, trivial, trivial, trivial⟩ rfl ?_ (f_ledger_Add_ok _ _ _ e23) (fun h => by cases h) (fun i hi e he => coF_get (l := [31]) (by simp only [wz, wd, ws, seval, wi, e_api_Ledger, e_api_Disk, e_api_Write]) i e hi he) ?_
    · simp only [wz, wd, ws, seval, e_api_Ledger, e_api_Disk, e_api_Write, frz.eq_1, er_back]
    simp only [wz, wd, ws, seval, c5r8, semI.eq_10, semI.eq_11, semI.eq_3, semI.eq_5, semI.eq_7, e_api_Ledger, e_api_Disk, e_api_Write, frz.eq_1, er_back]
    obtain rfl := Option.some.inj h
    refine .weak (Imp.co [] _ _ ?_ ?_ ?_ ?_ ?_) (tail) <;> simp only [wz, wd, ws, seval, wi, er_nil, e_api_Ledger, e_api_Disk, e_api_Write]
end Go.Proofs.Ytjhelpeglgigbaa.V
end

section
/- Plain laws: numbers, rows and words of 32 bits. -/
namespace Go.Proofs.Ytjhelpeglgigbaa.V.M
set_option linter.unusedVariables false
set_option linter.unusedSimpArgs false
open Go Go.RowKit
theorem w_i64 {n : Int} (h : -9223372036854775808 ≤ n) (h2 : n < 9223372036854775808) : IntKind.i64.wrap n = n := by
  simp only [IntKind.wrap, IntKind.bits, IntKind.signed]; simp; omega
theorem bounds_i64 {a : Int} (h : (Lit.int .i64 a).wf = true) : -9223372036854775808 ≤ a ∧ a ≤ 9223372036854775807 := by
  have e := (Bool.and_eq_true_iff.mp h); exact ⟨of_decide_eq_true e.1, of_decide_eq_true e.2⟩
theorem bounds_u8 {a : Int} (h : (Lit.int .u8 a).wf = true) : 0 ≤ a ∧ a ≤ 255 := by
  have e := (Bool.and_eq_true_iff.mp h); exact ⟨of_decide_eq_true e.1, of_decide_eq_true e.2⟩
theorem w_u64 {n : Int} (h : 0 ≤ n) (h2 : n < 18446744073709551616) : IntKind.u64.wrap n = n := by
  simp only [IntKind.wrap, IntKind.bits, IntKind.signed]; simp; omega
theorem w_u32 (n : Int) : IntKind.u32.wrap n = n % 4294967296 := by simp [IntKind.wrap, IntKind.bits, IntKind.signed]
theorem w_u8 (n : Int) : IntKind.u8.wrap n = n % 256 := by simp [IntKind.wrap, IntKind.bits, IntKind.signed]
theorem gd_t {α : Type} {p : Prop} [Decidable p] (k : Option α) (h : p) : gd p k = k := by unfold gd; rw [if_pos h]
theorem ix_nat {α : Type} (l : List α) (n : Nat) : ix l (n : Int) = l[n]? := by unfold ix; rw [if_pos (by omega)]; rfl
theorem ix_lt {α : Type} (l : List α) (d : α) (n : Nat) (h : n < l.length) : ix l (n : Int) = some (l.getD n d) := by
  rw [ix_nat, List.getElem?_eq_getElem h, List.getD_eq_getElem?_getD, List.getElem?_eq_getElem h]; rfl
theorem cut_all {α : Type} (l : List α) (n : Nat) : cut l (n : Int) (l.length : Int) = l.drop n := by unfold cut; simp
theorem cut_zero {α : Type} (l : List α) (n : Nat) : cut l 0 (n : Int) = l.take n := by unfold cut; simp
/-- A word of 32 bits, as the program's number. -/
def B (x : BitVec 32) : Int := (x.toNat : Int)
theorem B_lt (x : BitVec 32) : 0 ≤ B x ∧ B x < 4294967296 := ⟨by unfold B; omega, by unfold B; have := x.isLt; omega⟩
theorem B_of (n : Int) : BitVec.ofInt 32 n = BitVec.ofInt 32 n := rfl
theorem B_ofInt (n : Int) : IntKind.u32.wrap n = B (BitVec.ofInt 32 n) := by
  rw [w_u32]; unfold B; rw [BitVec.toNat_ofInt]; omega
theorem of_B (x : BitVec 32) : BitVec.ofInt 32 (B x) = x := by unfold B; simp
theorem of_B' (x : BitVec 32) : BitVec.ofInt IntKind.u32.bits (B x) = x := of_B x
theorem wrap_B (x : BitVec 32) : IntKind.u32.wrap (B x) = B x := by rw [B_ofInt, of_B]
theorem wrap_N (x : BitVec 32) : IntKind.u32.wrap ((x.toNat : Nat) : Int) = B x := wrap_B x
theorem add_B (x y : BitVec 32) : IntKind.u32.wrap (B x + B y) = B (x + y) := by
  rw [B_ofInt, BitVec.ofInt_add, of_B, of_B]
theorem B_mod (n : Nat) : (n : Int) % 4294967296 = B (BitVec.ofNat 32 n) := by unfold B; simp
theorem not_B (x : BitVec 32) : IntKind.u32.wrap (4294967295 - B x) = B (~~~ x) := by
  have := B_lt x
  rw [w_u32]; unfold B at *; rw [BitVec.toNat_not]; omega
theorem not_B2 (x : BitVec 32) : IntKind.u32.wrap (BitVec.ofInt IntKind.u32.bits (if IntKind.u32.signed then -1 else IntKind.u32.max) ^^^ BitVec.ofInt IntKind.u32.bits (B x)).toNat = B (~~~ x) := by
  have e : (BitVec.ofInt IntKind.u32.bits (if IntKind.u32.signed then -1 else IntKind.u32.max) ^^^ BitVec.ofInt IntKind.u32.bits (B x)) = ~~~ x := by
    show BitVec.ofInt 32 4294967295 ^^^ BitVec.ofInt 32 (B x) = _
    rw [of_B, show BitVec.ofInt 32 4294967295 = BitVec.allOnes 32 from by decide, BitVec.allOnes_xor]
  rw [e]; exact wrap_N _
theorem xor_B (x y : BitVec 32) : IntKind.u32.wrap (BitVec.ofInt IntKind.u32.bits (B x) ^^^ BitVec.ofInt IntKind.u32.bits (B y)).toNat = B (x ^^^ y) := by
  have e : (BitVec.ofInt IntKind.u32.bits (B x) ^^^ BitVec.ofInt IntKind.u32.bits (B y)) = x ^^^ y := by
    show BitVec.ofInt 32 (B x) ^^^ BitVec.ofInt 32 (B y) = _
    rw [of_B, of_B]
  rw [e]; exact wrap_N _
theorem and_B (x y : BitVec 32) : IntKind.u32.wrap (BitVec.ofInt IntKind.u32.bits (B x) &&& BitVec.ofInt IntKind.u32.bits (B y)).toNat = B (x &&& y) := by
  have e : (BitVec.ofInt IntKind.u32.bits (B x) &&& BitVec.ofInt IntKind.u32.bits (B y)) = x &&& y := by
    show BitVec.ofInt 32 (B x) &&& BitVec.ofInt 32 (B y) = _
    rw [of_B, of_B]
  rw [e]; exact wrap_N _
theorem or_B (x y : BitVec 32) : IntKind.u32.wrap (BitVec.ofInt IntKind.u32.bits (B x) ||| BitVec.ofInt IntKind.u32.bits (B y)).toNat = B (x ||| y) := by
  have e : (BitVec.ofInt IntKind.u32.bits (B x) ||| BitVec.ofInt IntKind.u32.bits (B y)) = x ||| y := by
    show BitVec.ofInt 32 (B x) ||| BitVec.ofInt 32 (B y) = _
    rw [of_B, of_B]
  rw [e]; exact wrap_N _
/-- The turn to the right. -/
def rot (n : Nat) (x : BitVec 32) : BitVec 32 := (x <<< (32 - n)) ||| (x >>> n)
theorem rot_add (n : Nat) (h0 : 0 < n) (h : n < 32) (x : BitVec 32) : rot n x = (x <<< (32 - n)) + (x >>> n) := by
  unfold rot; symm; apply BitVec.add_eq_or_of_and_eq_zero
  ext i hi
  simp only [BitVec.getElem_and, BitVec.getElem_shiftLeft, BitVec.getElem_ushiftRight, BitVec.getElem_zero]
  by_cases c : i < 32 - n
  · simp [c]
  · simp [c]; intro _; exact BitVec.getLsbD_of_ge _ _ (by omega)
theorem B_def (x : BitVec 32) : B x = (x.toNat : Int) := rfl
theorem shr_B (x : BitVec 32) (n : Nat) : (B x).fdiv (2 ^ n) = B (x >>> n) := by
  have h : (2 : Int) ^ n = ((2 ^ n : Nat) : Int) := by rw [Int.natCast_pow]; rfl
  rw [B_def, B_def, BitVec.toNat_ushiftRight, Nat.shiftRight_eq_div_pow, h, Int.fdiv_eq_ediv_of_nonneg _ (Int.natCast_nonneg _)]; rfl
theorem shl_B (x : BitVec 32) (n : Nat) : IntKind.u32.wrap (B x * 2 ^ n) = B (x <<< n) := by
  have h : (2 : Int) ^ n = ((2 ^ n : Nat) : Int) := by rw [Int.natCast_pow]; rfl
  rw [w_u32, B_def, B_def, BitVec.toNat_shiftLeft, Nat.shiftLeft_eq, h, ← Int.natCast_mul]; rfl
theorem divB (x : BitVec 32) (n : Nat) (p : Int) (h : p = ((2 ^ n : Nat) : Int)) : IntKind.u32.wrap ((B x).tdiv p) = B (x >>> n) := by
  subst h
  rw [B_def, Int.tdiv_eq_ediv_of_nonneg (Int.natCast_nonneg _), show ((x.toNat : Int) / ((2 ^ n : Nat) : Int)) = ((x >>> n).toNat : Int) by
    rw [BitVec.toNat_ushiftRight, Nat.shiftRight_eq_div_pow]; rfl]
  exact wrap_N _
theorem modB (x : BitVec 32) (n : Nat) (hn : n ≤ 32) (p q : Int) (h : p = ((2 ^ n : Nat) : Int)) (h2 : q = ((2 ^ (32 - n) : Nat) : Int)) : IntKind.u32.wrap ((B x).tmod p * q) = B (x <<< (32 - n)) := by
  subst h; subst h2
  rw [B_def, Int.tmod_eq_emod_of_nonneg (Int.natCast_nonneg _), w_u32, B_def, BitVec.toNat_shiftLeft, Nat.shiftLeft_eq]
  have e : (x.toNat % 2 ^ n) * 2 ^ (32 - n) = x.toNat * 2 ^ (32 - n) % 2 ^ 32 := by
    rw [← Nat.mul_mod_mul_right]; congr 1; rw [← Nat.pow_add]; congr 1; omega
  rw [← e, ← Int.natCast_emod, ← Int.natCast_mul, e]
  have := Nat.mod_lt (x.toNat * 2 ^ (32 - n)) (show 2 ^ 32 > 0 by decide)
  omega
end Go.Proofs.Ytjhelpeglgigbaa.V.M
end

section
/- The two ways to turn a word agree; mixed, step and block over words. -/
namespace Go.Proofs.Ytjhelpeglgigbaa.V.M
set_option linter.unusedVariables false
set_option linter.unusedSimpArgs false
open Go Go.RowKit
def sg0 (x : BitVec 32) := rot 7 x ^^^ rot 18 x ^^^ (x >>> 3)
def sg1 (x : BitVec 32) := rot 17 x ^^^ rot 19 x ^^^ (x >>> 10)
def bg0 (x : BitVec 32) := rot 2 x ^^^ rot 13 x ^^^ rot 22 x
def bg1 (x : BitVec 32) := rot 6 x ^^^ rot 11 x ^^^ rot 25 x
def Cb (c : UInt8) : BitVec 32 := BitVec.ofNat 32 c.toNat
theorem bn_B (c : UInt8) : IntKind.u32.wrap (bn c) = B (Cb c) := by
  rw [w_u32]; unfold bn Cb; exact B_mod _
def wd (a b c d : UInt8) : BitVec 32 := Cb a <<< 24 ||| Cb b <<< 16 ||| Cb c <<< 8 ||| Cb d
theorem mn24 : min 24 IntKind.u32.bits = 24 := rfl
theorem mn16 : min 16 IntKind.u32.bits = 16 := rfl
theorem mn8 : min 8 IntKind.u32.bits = 8 := rfl
theorem wd_eq (a b c d : UInt8) : 256#32 * (256#32 * (256#32 * (256#32 * 0#32 + Cb a) + Cb b) + Cb c) + Cb d = wd a b c d := by
  apply BitVec.eq_of_toNat_eq
  unfold wd Cb
  have ha := a.toNat_lt; have hb := b.toNat_lt; have hc := c.toNat_lt; have hd := d.toNat_lt
  simp only [BitVec.toNat_add, BitVec.toNat_mul, BitVec.toNat_or, BitVec.toNat_shiftLeft, BitVec.toNat_ofNat, Nat.shiftLeft_eq]
  rw [Nat.or_assoc, Nat.or_assoc, Nat.mod_eq_of_lt (show d.toNat < 2 ^ 32 by omega), Nat.mod_eq_of_lt (show c.toNat < 2 ^ 32 by omega), Nat.mod_eq_of_lt (show b.toNat < 2 ^ 32 by omega), Nat.mod_eq_of_lt (show a.toNat < 2 ^ 32 by omega),
    Nat.mod_eq_of_lt (show c.toNat * 2 ^ 8 < 2 ^ 32 by omega), Nat.mod_eq_of_lt (show b.toNat * 2 ^ 16 < 2 ^ 32 by omega), Nat.mod_eq_of_lt (show a.toNat * 2 ^ 24 < 2 ^ 32 by omega),
    Nat.mul_comm c.toNat, Nat.mul_comm b.toNat, Nat.mul_comm a.toNat, ← Nat.two_pow_add_eq_or_of_lt (show d.toNat < 2 ^ 8 by omega),
    ← Nat.two_pow_add_eq_or_of_lt (show 2 ^ 8 * c.toNat + d.toNat < 2 ^ 16 by omega), ← Nat.two_pow_add_eq_or_of_lt (show 2 ^ 16 * b.toNat + (2 ^ 8 * c.toNat + d.toNat) < 2 ^ 24 by omega)]
  omega
end Go.Proofs.Ytjhelpeglgigbaa.V.M
end

section
/- The words of a block, and a block, computed in both ways. -/
namespace Go.Proofs.Ytjhelpeglgigbaa.V.M
set_option linter.unusedVariables false
set_option linter.unusedSimpArgs false
open Go Go.RowKit
def wr (s : Str) (i : Nat) : BitVec 32 := wd (s.getD (4 * i) 0) (s.getD (4 * i + 1) 0) (s.getD (4 * i + 2) 0) (s.getD (4 * i + 3) 0)
def nxWord (s : Str) (i : Nat) (l : List (BitVec 32)) : BitVec 32 :=
  if i < 16 then wr s i else sg1 (l.getD (i - 2) 0#32) + l.getD (i - 7) 0#32 + sg0 (l.getD (i - 15) 0#32) + l.getD (i - 16) 0#32
def sch (s : Str) : Nat → List (BitVec 32)
  | 0 => []
  | i + 1 => sch s i ++ [nxWord s i (sch s i)]
theorem sch_len (s : Str) (i : Nat) : (sch s i).length = i := by
  induction i with
  | zero => rfl
  | succ i ih => simp [sch, ih]
def W0 (s : Str) (i : Nat) : List Int := (sch s i).map B ++ List.replicate (64 - i) 0
theorem ix_sch (s : Str) (i j : Nat) (h : j < i) (r : List Int) : ix ((sch s i).map B ++ r) (j : Int) = some (B ((sch s i).getD j 0#32)) := by
  rw [ix_nat, List.getElem?_append_left (by simpa [sch_len] using h), List.getElem?_map, List.getElem?_eq_getElem (by simpa [sch_len] using h), List.getD_eq_getElem?_getD, List.getElem?_eq_getElem (by simpa [sch_len] using h)]; rfl
theorem ix_W0 (s : Str) (i j : Nat) (h : j < i) : ix (W0 s i) (j : Int) = some (B ((sch s i).getD j 0#32)) := ix_sch s i j h _
theorem ix_V0 (s : Str) (i j : Nat) (h : j < i) : ix ((sch s i).map B) (j : Int) = some (B ((sch s i).getD j 0#32)) := by
  have := ix_sch s i j h []; rwa [List.append_nil] at this
theorem W0_len (s : Str) (i : Nat) (h : i ≤ 64) : (W0 s i).length = 64 := by simp [W0, sch_len]; omega
theorem W0_set (s : Str) (i : Nat) (h : i < 64) (y : Int) (hy : y = B (nxWord s i (sch s i))) : (W0 s i).set i y = W0 s (i + 1) := by
  subst hy
  unfold W0
  rw [show 64 - i = (64 - (i + 1)) + 1 from by omega, List.replicate_succ, List.set_append_right _ _ (by simp [sch_len])]
  simp [sch_len, sch]
end Go.Proofs.Ytjhelpeglgigbaa.V.M
end

section
/- A block, computed in both ways. -/
namespace Go.Proofs.Ytjhelpeglgigbaa.V.M
set_option linter.unusedVariables false
set_option linter.unusedSimpArgs false
open Go Go.RowKit
theorem ix_map (l : List (BitVec 32)) (j : Nat) (h : j < l.length) : ix (l.map B) (j : Int) = some (B (l.getD j 0#32)) := by
  rw [ix_nat, List.getElem?_map, List.getElem?_eq_getElem h, List.getD_eq_getElem?_getD, List.getElem?_eq_getElem h]; rfl
def rnd (k w : BitVec 32) : List (BitVec 32) → List (BitVec 32)
  | [a, b, c, d, e, f, g, h] =>
    [h + bg1 e + (e &&& f ^^^ (~~~ e) &&& g) + k + w + (bg0 a + (a &&& b ^^^ a &&& c ^^^ b &&& c)), a, b, c, d + (h + bg1 e + (e &&& f ^^^ (~~~ e) &&& g) + k + w), e, f, g]
  | v => v
theorem len8 {α : Type} (l : List α) (h : l.length = 8) : ∃ a b c d e f g i, l = [a, b, c, d, e, f, g, i] := by
  match l, h with
  | [a, b, c, d, e, f, g, i], _ => exact ⟨a, b, c, d, e, f, g, i, rfl⟩
theorem rnd_len (k w : BitVec 32) (v : List (BitVec 32)) (h : v.length = 8) : (rnd k w v).length = 8 := by
  obtain ⟨a, b, c, d, e, f, g, i, rfl⟩ := len8 v h; rfl
theorem bsn {α β : Type} (a : α) (f : α → Option β) : (some a).bind f = f a := Eq.trans (Option.bind_some a f) rfl
theorem gdc0 (a : BitVec 32) (l : List (BitVec 32)) : (a :: l).getD 0 0#32 = a := Eq.trans List.getD_cons_zero rfl
theorem gdc1 (a : BitVec 32) (l : List (BitVec 32)) (n : Nat) : (a :: l).getD (n + 1) 0#32 = l.getD n 0#32 := Eq.trans List.getD_cons_succ rfl
theorem ix8 (a b c d e f g i : BitVec 32) : ix ([a, b, c, d, e, f, g, i].map B) 0 = some (B a) ∧ ix ([a, b, c, d, e, f, g, i].map B) 1 = some (B b) ∧ ix ([a, b, c, d, e, f, g, i].map B) 2 = some (B c) ∧ ix ([a, b, c, d, e, f, g, i].map B) 3 = some (B d) ∧ ix ([a, b, c, d, e, f, g, i].map B) 4 = some (B e) ∧ ix ([a, b, c, d, e, f, g, i].map B) 5 = some (B f) ∧ ix ([a, b, c, d, e, f, g, i].map B) 6 = some (B g) ∧ ix ([a, b, c, d, e, f, g, i].map B) 7 = some (B i) := ⟨rfl, rfl, rfl, rfl, rfl, rfl, rfl, rfl⟩
theorem nx_take (s : Str) (i : Nat) (l : List (BitVec 32)) : nxWord (s.take 64) i l = nxWord s i l := by
  have e : ∀ j, j < 64 → (s.take 64).getD j 0 = s.getD j 0 := by
    intro j hj; rw [List.getD_eq_getElem?_getD, List.getD_eq_getElem?_getD, List.getElem?_take_of_lt hj]
  unfold nxWord
  by_cases c : i < 16
  · rw [if_pos c, if_pos c]; unfold wr; rw [e _ (by omega), e _ (by omega), e _ (by omega), e _ (by omega)]
  · rw [if_neg c, if_neg c]
theorem sch_take (s : Str) (i : Nat) : sch (s.take 64) i = sch s i := by
  induction i with
  | zero => rfl
  | succ i ih => rw [sch, sch, ih, nx_take]
end Go.Proofs.Ytjhelpeglgigbaa.V.M
end

section
/- The sum of a text, computed in both ways. -/
namespace Go.Proofs.Ytjhelpeglgigbaa.V.M
set_option linter.unusedVariables false
set_option linter.unusedSimpArgs false
open Go Go.RowKit
def padS (s : Str) : Str := s ++ List.replicate ((120 - s.length % 64) % 64) 0
theorem padS_next (s : Str) (h : s.length % 64 ≠ 56) : padS (s ++ [0]) = padS s := by
  unfold padS
  rw [List.length_append, List.append_assoc, show ([0] : Str) = List.replicate 1 0 from rfl, List.replicate_append_replicate, List.length_replicate]
  congr 2; omega
theorem padS_end (s : Str) (h : s.length % 64 = 56) : padS s = s := by
  unfold padS; rw [h]; simp
theorem padS_len (s : Str) : (padS s).length % 64 = 56 ∧ (padS s).length ≤ s.length + 63 ∧ s.length ≤ (padS s).length := by
  unfold padS; rw [List.length_append, List.length_replicate]; omega
theorem tm64 (n : Nat) : ((((n : Int).tmod 64) != 56) = true) ↔ n % 64 ≠ 56 := by
  rw [Int.tmod_eq_emod_of_nonneg (Int.natCast_nonneg _)]; simp; omega
theorem map_bn0 (s : Str) : s.map bn ++ ([0] : List Int) = (s ++ [0]).map bn := by rw [List.map_append]; rfl
def byt (T j : Nat) : UInt8 := UInt8.ofNat (T / 2 ^ (8 * j))
def lbs (T : Nat) : Str := [byt T 7, byt T 6, byt T 5, byt T 4, byt T 3, byt T 2, byt T 1, byt T 0]
def Tb (n : Nat) : Nat := n * 8 % 18446744073709551616
theorem T_ok (n : Nat) (h : n ≤ 140737488355328) : IntKind.u64.wrap ((IntKind.u64.wrap (n : Int)) * 8) = (Tb n : Int) := by
  rw [w_u64 (n := (n : Int)) (by omega) (by omega), w_u64 (by omega) (by omega)]; unfold Tb; omega
theorem pow_c (n : Nat) : (2 : Int) ^ n = ((2 ^ n : Nat) : Int) := by rw [Int.natCast_pow]; rfl
theorem nb_mod (n : Nat) : nb (((n % 256 : Nat)) : Int) = UInt8.ofNat n := by
  unfold nb; rw [Int.toNat_natCast]; apply UInt8.toNat_inj.mp; rw [UInt8.toNat_ofNat', UInt8.toNat_ofNat', Nat.mod_mod]
theorem byt_f (T j : Nat) (hj : j < 8) : nb (IntKind.u8.wrap ((T : Int).fdiv (2 ^ (min (IntKind.i64.wrap (8 * (j : Int))).toNat IntKind.u64.bits)))) = byt T j := by
  rw [w_i64 (by omega) (by omega), show min (8 * (j : Int)).toNat IntKind.u64.bits = 8 * j from by show min _ 64 = _; omega, pow_c, Int.fdiv_eq_ediv_of_nonneg _ (Int.natCast_nonneg _), w_u8, ← Int.natCast_ediv]
  exact nb_mod _
theorem byt_t (T j : Nat) (hT : T < 18446744073709551616) : IntKind.u8.wrap ((IntKind.u64.wrap ((T : Int).tdiv ((2 ^ (8 * j) : Nat) : Int))).tmod 256) = bn (byt T j) := by
  rw [Int.tdiv_eq_ediv_of_nonneg (Int.natCast_nonneg _), ← Int.natCast_ediv, w_u64 (Int.natCast_nonneg _) (by have := Nat.div_le_self T (2 ^ (8 * j)); omega), Int.tmod_eq_emod_of_nonneg (Int.natCast_nonneg _), w_u8]
  unfold bn byt; rw [UInt8.toNat_ofNat']; omega
end Go.Proofs.Ytjhelpeglgigbaa.V.M
end

section
/- The sum of a text, computed in both ways: the blocks, and what is handed back. -/
namespace Go.Proofs.Ytjhelpeglgigbaa.V.M
set_option linter.unusedVariables false
set_option linter.unusedSimpArgs false
open Go Go.RowKit
theorem nb_bn (s : Str) : (s.map bn).map nb = s := by
  rw [List.map_map]
  have : nb ∘ bn = id := by funext c; simp [nb, bn]
  rw [this, List.map_id]
def o4 (x : Int) : List Int := [(IntKind.u8.wrap (x.fdiv (2 ^ (min 24 IntKind.u32.bits)))), (IntKind.u8.wrap (x.fdiv (2 ^ (min 16 IntKind.u32.bits)))), (IntKind.u8.wrap (x.fdiv (2 ^ (min 8 IntKind.u32.bits)))), (IntKind.u8.wrap x)]
def p4 (x : Int) : List Int := [(IntKind.u8.wrap (IntKind.u32.wrap (x.tdiv 16777216))), (IntKind.u8.wrap ((IntKind.u32.wrap (x.tdiv 65536)).tmod 256)), (IntKind.u8.wrap ((IntKind.u32.wrap (x.tdiv 256)).tmod 256)), (IntKind.u8.wrap (x.tmod 256))]
theorem m8 (y : BitVec 32) : IntKind.u8.wrap ((B y).tmod 256) = IntKind.u8.wrap (B y) := by
  have := B_lt y
  rw [Int.tmod_eq_emod_of_nonneg this.1, w_u8, w_u8]; omega
theorem p4_eq (x : BitVec 32) : p4 (B x) = o4 (B x) := by
  unfold p4 o4
  rw [divB x 24 16777216 rfl, divB x 16 65536 rfl, divB x 8 256 rfl, m8, m8, m8, mn24, mn16, mn8, shr_B, shr_B, shr_B]
def firstB : List (BitVec 32) := [1779033703#32, 3144134277#32, 1013904242#32, 2773480762#32, 1359893119#32, 2600822924#32, 528734635#32, 1541459225#32]
def full (s : Str) : Str := padS (s ++ [128]) ++ lbs (Tb s.length)
theorem full_len (s : Str) : (full s).length = 64 * ((full s).length / 64) ∧ (full s).length ≤ s.length + 72 ∧ (full s).length = (padS (s ++ [128])).length + 8 := by
  have := padS_len (s ++ [128])
  unfold full
  rw [List.length_append] at *
  have e : (lbs (Tb s.length)).length = 8 := rfl
  simp only [List.length_cons, List.length_nil] at *
  omega
end Go.Proofs.Ytjhelpeglgigbaa.V.M
end

section
/- Hex, read and written, in both ways. -/
namespace Go.Proofs.Ytjhelpeglgigbaa.V.M
set_option linter.unusedVariables false
set_option linter.unusedSimpArgs false
open Go Go.RowKit
theorem bn_dig (n : Nat) (h : n < 16) : bn (dig n) = if n < 10 then 48 + (n : Int) else 97 + (n : Int) - 10 := by
  have : ∀ n : Fin 16, bn (dig n.val) = if n.val < 10 then 48 + (n.val : Int) else 97 + (n.val : Int) - 10 := by decide
  exact this ⟨n, h⟩
end Go.Proofs.Ytjhelpeglgigbaa.V.M
end

section
/- Hex read back, in both ways; digests parsed in both ways. -/
namespace Go.Proofs.Ytjhelpeglgigbaa.V.M
set_option linter.unusedVariables false
set_option linter.unusedSimpArgs false
open Go Go.RowKit
def hx (c : UInt8) : Nat := if 48 ≤ c.toNat ∧ c.toNat ≤ 57 then c.toNat - 48 else if 97 ≤ c.toNat ∧ c.toNat ≤ 102 then c.toNat - 87 else 16
def un : Str → Option Str
  | [] => some []
  | [_] => none
  | a :: b :: r => if hx a < 16 ∧ hx b < 16 then (un r).map (UInt8.ofNat (16 * hx a + hx b) :: ·) else none
theorem u8_all {P : UInt8 → Prop} [DecidablePred P] (h : (List.range 256).all (fun n => decide (P (UInt8.ofNat n))) = true) (c : UInt8) : P c := by
  have := (List.all_eq_true.mp h) c.toNat (List.mem_range.mpr c.toNat_lt)
  simpa using this
abbrev dgs : Str := [48, 49, 50, 51, 52, 53, 54, 55, 56, 57, 97, 98, 99, 100, 101, 102]
theorem hx_le (c : UInt8) : hx c ≤ 16 := by unfold hx; split <;> (try split) <;> omega
theorem hx_dig (n : Nat) (h : n < 16) : hx (dig n) = n := by
  have : ∀ n : Fin 16, hx (dig n.val) = n.val := by decide
  exact this ⟨n, h⟩
theorem un_hexl (x : Str) : un (hexl x) = some x := by
  induction x with
  | nil => rfl
  | cons c x ih =>
    have hc := c.toNat_lt
    show un (dig (c.toNat / 16) :: dig (c.toNat % 16) :: hexl x) = _
    rw [un, hx_dig _ (by omega), hx_dig _ (by omega), if_pos (by omega), ih, show 16 * (c.toNat / 16) + c.toNat % 16 = c.toNat by omega]; simp
theorem un_len : ∀ (n : Nat) (s x : Str), s.length ≤ n → un s = some x → s.length = 2 * x.length := by
  intro n
  induction n with
  | zero => intro s x h e; obtain rfl : s = [] := List.length_eq_zero_iff.mp (by omega); cases e; rfl
  | succ n ih =>
    intro s x h e
    match s, e with
    | [], e => cases e; rfl
    | [_], e => cases e
    | a :: b :: r, e =>
      rw [un] at e
      split at e
      · obtain ⟨y, hy, rfl⟩ := Option.map_eq_some_iff.mp e
        have := ih r y (by simp only [List.length_cons] at h; omega) hy
        simp only [List.length_cons]; omega
      · cases e
theorem w8h (a b : UInt8) (ha : hx a < 16) (hb : hx b < 16) : IntKind.u8.wrap (IntKind.i64.wrap ((IntKind.i64.wrap ((hx a : Int) * 16)) + (hx b : Int))) = bn (UInt8.ofNat (16 * hx a + hx b)) := by
  rw [w_i64 (n := (hx a : Int) * 16) (by omega) (by omega), w_i64 (by omega) (by omega), w_u8]; unfold bn; rw [UInt8.toNat_ofNat']; omega
theorem drop2 (s : Str) (v : Nat) (h : 2 * v + 1 < s.length) : s.drop (2 * v) = s.getD (2 * v) 0 :: s.getD (2 * v + 1) 0 :: s.drop (2 * (v + 1)) := by
  rw [List.drop_eq_getElem_cons (by omega), List.drop_eq_getElem_cons (i := 2 * v + 1) (by omega), List.getD_eq_getElem?_getD, List.getD_eq_getElem?_getD, List.getElem?_eq_getElem (by omega), List.getElem?_eq_getElem (by omega)]; rfl
abbrev pfx : Str := [115, 104, 97, 50, 53, 54, 58]
def parseS (s : Str) : Str × Int := if s.take 7 = pfx then (match un (s.drop 7) with | some x => if x.length = 32 then (x, 0) else ([], 6) | none => ([], 6)) else ([], 6)
end Go.Proofs.Ytjhelpeglgigbaa.V.M
end

section
/- Octet: numbers in bytes, read and written; the loose reader; what is bound. -/
namespace Go.Proofs.Ytjhelpeglgigbaa.V.M
set_option linter.unusedVariables false
set_option linter.unusedSimpArgs false
open Go Go.RowKit
theorem cut_take {α : Type} (l : List α) (k : Nat) : cut l 0 (if (k : Int) < (l.length : Int) then (k : Int) else (l.length : Int)) = l.take k := by
  by_cases c : k < l.length
  · rw [if_pos (by omega)]; exact cut_zero l k
  · rw [if_neg (by omega), cut_zero, List.take_of_length_le (by omega), List.take_of_length_le (by omega)]
theorem cut_gd {α : Type} (l : List α) (k : Nat) : 0 ≤ (if (k : Int) < (l.length : Int) then (k : Int) else (l.length : Int)) ∧ (if (k : Int) < (l.length : Int) then (k : Int) else (l.length : Int)) ≤ (l.length : Int) := by
  split <;> omega
theorem cut_gdI {α : Type} (l : List α) (k : Int) (hk : 0 ≤ k) : 0 ≤ (if k < (l.length : Int) then k else (l.length : Int)) ∧ (if k < (l.length : Int) then k else (l.length : Int)) ≤ (l.length : Int) := by
  split <;> omega
def fewL (l : List Str) : List Str := (l.take 66).map (·.take 4100)
theorem fewL_len (l : List Str) : (fewL l).length ≤ 66 := by unfold fewL; rw [List.length_map, List.length_take]; omega
/-- What a text's bytes say, the lowest one first. -/
def wholeN : Str → Nat
  | [] => 0
  | c :: l => c.toNat + 256 * wholeN l
theorem wholeN_lt : ∀ l : Str, wholeN l < 2 ^ (8 * l.length)
  | [] => by decide
  | c :: l => by
    have := wholeN_lt l
    have hc := c.toNat_lt
    rw [wholeN, List.length_cons, show 8 * (l.length + 1) = 8 * l.length + 8 by omega, Nat.pow_add]
    omega
theorem wholeN_snoc (l : Str) (c : UInt8) : wholeN (l ++ [c]) = wholeN l + c.toNat * 2 ^ (8 * l.length) := by
  induction l with
  | nil => simp [wholeN]
  | cons a l ih => rw [List.cons_append, wholeN, wholeN, ih, List.length_cons, show 8 * (l.length + 1) = 8 * l.length + 8 by omega, Nat.pow_add, Nat.mul_add, ← Nat.mul_assoc, show 2 ^ (8 * l.length) * 2 ^ 8 = 256 * 2 ^ (8 * l.length) by omega, ← Nat.mul_assoc, Nat.mul_comm 256 c.toNat]; omega
theorem w_u64n {n : Nat} (h : n < 18446744073709551616) : IntKind.u64.wrap (n : Int) = (n : Int) := w_u64 (by omega) (by omega)
theorem or_step (n : Nat) (c : UInt8) (k : Nat) (hk : k < 8) (hn : n < 2 ^ (8 * k)) :
    IntKind.u64.wrap ((BitVec.ofInt IntKind.u64.bits (n : Int) ||| BitVec.ofInt IntKind.u64.bits (IntKind.u64.wrap ((IntKind.u64.wrap (bn c)) * 2 ^ (min (IntKind.i64.wrap (8 * (k : Int))).toNat IntKind.u64.bits)))).toNat) = ((n + c.toNat * 2 ^ (8 * k) : Nat) : Int) := by
  have hc := c.toNat_lt
  have hp : 2 ^ (8 * k) ≤ 2 ^ 56 := Nat.pow_le_pow_right (by decide) (by omega)
  have hm : c.toNat * 2 ^ (8 * k) ≤ 255 * 2 ^ 56 := Nat.mul_le_mul (by omega) hp
  have hs : n + c.toNat * 2 ^ (8 * k) < 18446744073709551616 := by
    have : c.toNat * 2 ^ (8 * k) + 2 ^ (8 * k) ≤ 256 * 2 ^ 56 := by
      have : (c.toNat + 1) * 2 ^ (8 * k) ≤ 256 * 2 ^ 56 := Nat.mul_le_mul (by omega) hp
      rw [Nat.add_mul] at this; omega
    omega
  rw [show bn c = ((c.toNat : Nat) : Int) from rfl, w_u64n (n := c.toNat) (by omega), w_i64 (by omega) (by omega), show (8 * (k : Int)).toNat = 8 * k by omega, show min (8 * k) IntKind.u64.bits = 8 * k by show min (8 * k) 64 = _; omega,
    show ((c.toNat : Int) * 2 ^ (8 * k)) = ((c.toNat * 2 ^ (8 * k) : Nat) : Int) by rw [Int.natCast_mul, Int.natCast_pow]; rfl, w_u64n (n := c.toNat * 2 ^ (8 * k)) (by omega), BitVec.toNat_or, BitVec.toNat_ofInt, BitVec.toNat_ofInt]
  show IntKind.u64.wrap (((((n : Int) % (18446744073709551616 : Int)).toNat ||| (((c.toNat * 2 ^ (8 * k) : Nat) : Int) % (18446744073709551616 : Int)).toNat : Nat)) : Int) = _
  rw [show ((n : Int) % (18446744073709551616 : Int)).toNat = n by omega, show (((c.toNat * 2 ^ (8 * k) : Nat) : Int) % (18446744073709551616 : Int)).toNat = c.toNat * 2 ^ (8 * k) by omega]
  have e := Nat.shiftLeft_add_eq_or_of_lt hn c.toNat
  rw [Nat.shiftLeft_eq] at e
  rw [Nat.or_comm, ← e, Nat.add_comm, w_u64n hs]
theorem w9_ok (s : Str) (hs : s.length ≤ 8) (suf : Str) : ∀ (pre : Str) (m : Nat), s = pre ++ suf → suf.length < m → f_octet_Whole_l9 s m ((wholeN pre : Nat) : Int) (pre.length : Int) = some (((wholeN s : Nat) : Int), (s.length : Int)) := by
  induction suf with
  | nil =>
    intro pre m h hm
    obtain ⟨m, rfl⟩ : ∃ k, m = k + 1 := ⟨m - 1, by omega⟩
    rw [List.append_nil] at h; subst h
    rw [f_octet_Whole_l9, if_neg (by simp)]
  | cons c r ih =>
    intro pre m h hm
    obtain ⟨m, rfl⟩ : ∃ k, m = k + 1 := ⟨m - 1, by omega⟩
    have hl : s.length = pre.length + 1 + r.length := by rw [h]; simp; omega
    simp only [List.length_cons] at hm
    rw [f_octet_Whole_l9, if_pos (by simp; omega)]
    have e1 : ix s (pre.length : Int) = some c := by rw [h, ix_nat]; simp
    rw [e1, Option.bind_some, gd_t _ (by rw [w_i64 (by omega) (by omega)]; omega), or_step _ _ _ (by omega) (wholeN_lt pre), Option.bind_some, w_i64 (by omega) (by omega), ← wholeN_snoc]
    have q := ih (pre ++ [c]) m (by simp [h]) (by omega)
    rw [List.length_append, List.length_singleton] at q
    exact q
theorem whole_ok (s : Str) (hs : s.length ≤ 8) : f_octet_Whole s = some (((wholeN s : Nat) : Int), 0) := by
  unfold f_octet_Whole
  rw [if_neg (by simp; omega)]
  have q := w9_ok s hs s [] ((((s.length : Int) : Int) - 0).toNat + 1) rfl (by omega)
  rw [show ((wholeN [] : Nat) : Int) = 0 from rfl, show (([] : Str).length : Int) = 0 from rfl] at q
  rw [q]; rfl
theorem w6_ok (s : Str) (hs : s.length ≤ 8) (k : Nat) : ∀ m : Nat, k ≤ s.length → k < m → f_ref01_Whole_l6 s m ((wholeN (s.drop k) : Nat) : Int) ((k : Int) - 1) = some (((wholeN s : Nat) : Int), -1) := by
  induction k with
  | zero =>
    intro m hk hm
    obtain ⟨m, rfl⟩ : ∃ k, m = k + 1 := ⟨m - 1, by omega⟩
    rw [f_ref01_Whole_l6, if_neg (by simp)]; rfl
  | succ k ih =>
    intro m hk hm
    obtain ⟨m, rfl⟩ : ∃ k, m = k + 1 := ⟨m - 1, by omega⟩
    have e : s.drop k = s[k] :: s.drop (k + 1) := List.drop_eq_getElem_cons (by omega)
    have b : wholeN (s.drop k) < 2 ^ 64 := Nat.lt_of_lt_of_le (wholeN_lt _) (Nat.pow_le_pow_right (by decide) (by rw [List.length_drop]; omega))
    rw [e, wholeN] at b
    have hc := s[k].toNat_lt
    rw [f_ref01_Whole_l6, show (((k + 1 : Nat) : Int) - 1) = (k : Int) by omega, if_pos (by simp), ix_nat, List.getElem?_eq_getElem (by omega), Option.bind_some,
      show (256 * ((wholeN (s.drop (k + 1)) : Nat) : Int)) = ((256 * wholeN (s.drop (k + 1)) : Nat) : Int) by omega, w_u64n (by omega), show bn s[k] = ((s[k].toNat : Nat) : Int) from rfl, w_u64n (by omega), ← Int.natCast_add, w_u64n (by omega), w_i64 (by omega) (by omega)]
    have q := ih m (by omega) (by omega)
    rw [e, wholeN, Nat.add_comm] at q
    exact q
theorem rwhole_ok (s : Str) (hs : s.length ≤ 8) : f_ref01_Whole s = some ((wholeN s : Nat) : Int) := by
  unfold f_ref01_Whole
  have q := w6_ok s hs s.length ((((IntKind.i64.wrap ((s.length : Int) - 1)) : Int) - 0).toNat + 2) (Nat.le_refl _) (by rw [w_i64 (by omega) (by omega)]; omega)
  rw [List.drop_length, show ((wholeN [] : Nat) : Int) = 0 from rfl] at q
  rw [w_i64 (n := (s.length : Int) - 1) (by omega) (by omega)] at q ⊢
  rw [q]; rfl
/-- The loose reader. -/
def looseG : Nat → Str → List Str → List Str × Int
  | 0, _, _ => ([], 0)
  | m + 1, s, out =>
    if s = [] then (out, 0)
    else if s.length < 2 then ([], 3)
    else if 4096 < wholeN (s.take 2) ∨ out.length = 64 then ([], 2)
    else if (s.drop 2).length < wholeN (s.take 2) then ([], 3)
    else looseG m ((s.drop 2).drop (wholeN (s.take 2))) (out ++ [(s.drop 2).take (wholeN (s.take 2))])
def looseS (s : Str) : List Str × Int := looseG (s.length + 1) s []
def sumG (p : List Str × Int) : (Str × (List Str)) ⊕ ((List Str) × Int) := if p.2 = 0 then .inl ([], p.1) else .inr p
theorem lg_nil (m : Nat) (out : List Str) : looseG (m + 1) [] out = (out, 0) := by rw [looseG, if_pos rfl]
theorem lg_one (m : Nat) (s : Str) (out : List Str) (c : s ≠ []) (c1 : s.length < 2) : looseG (m + 1) s out = ([], 3) := by rw [looseG, if_neg c, if_pos c1]
theorem lg_big (m : Nat) (s : Str) (out : List Str) (c : s ≠ []) (c1 : ¬ s.length < 2) (c2 : 4096 < wholeN (s.take 2) ∨ out.length = 64) : looseG (m + 1) s out = ([], 2) := by rw [looseG, if_neg c, if_neg c1, if_pos c2]
theorem lg_short (m : Nat) (s : Str) (out : List Str) (c : s ≠ []) (c1 : ¬ s.length < 2) (c2 : ¬ (4096 < wholeN (s.take 2) ∨ out.length = 64)) (c3 : (s.drop 2).length < wholeN (s.take 2)) : looseG (m + 1) s out = ([], 3) := by rw [looseG, if_neg c, if_neg c1, if_neg c2, if_pos c3]
theorem lg_step (m : Nat) (s : Str) (out : List Str) (c : s ≠ []) (c1 : ¬ s.length < 2) (c2 : ¬ (4096 < wholeN (s.take 2) ∨ out.length = 64)) (c3 : ¬ (s.drop 2).length < wholeN (s.take 2)) : looseG (m + 1) s out = looseG m ((s.drop 2).drop (wholeN (s.take 2))) (out ++ [(s.drop 2).take (wholeN (s.take 2))]) := by rw [looseG, if_neg c, if_neg c1, if_neg c2, if_neg c3]
end Go.Proofs.Ytjhelpeglgigbaa.V.M
end

section
/- Octet: the laws OctetBinds, OctetLong, OctetBack. -/
namespace Go.Proofs.Ytjhelpeglgigbaa.V.M
set_option linter.unusedVariables false
set_option linter.unusedSimpArgs false
open Go Go.RowKit
theorem same9_ok (a b : List Str) (hl : a.length = b.length) (hb : a.length < 9000000000000000000) (k : Nat) : ∀ (i m : Nat), i + k = a.length → k < m →
    f_ref01_Same_l9 a b m (i : Int) = some (if a.drop i = b.drop i then .inl (a.length : Int) else .inr false) := by
  induction k with
  | zero =>
    intro i m hi hm
    obtain ⟨m, rfl⟩ : ∃ k, m = k + 1 := ⟨m - 1, by omega⟩
    rw [f_ref01_Same_l9, if_neg (by simp; omega), List.drop_eq_nil_of_le (by omega), List.drop_eq_nil_of_le (by omega), if_pos rfl, show i = a.length by omega]
  | succ k ih =>
    intro i m hi hm
    obtain ⟨m, rfl⟩ : ∃ k, m = k + 1 := ⟨m - 1, by omega⟩
    rw [f_ref01_Same_l9, if_pos (by simp; omega), ix_nat, List.getElem?_eq_getElem (by omega), Option.bind_some, ix_nat, List.getElem?_eq_getElem (by omega), Option.bind_some, List.drop_eq_getElem_cons (show i < a.length by omega), List.drop_eq_getElem_cons (show i < b.length by omega)]
    by_cases c : a[i]'(by omega) = b[i]'(by omega)
    · rw [if_neg (by simp [c]), w_i64 (by omega) (by omega), show ((i : Int) + 1) = ((i + 1 : Nat) : Int) by omega, ih (i + 1) m (by omega) (by omega), c]
      congr 1
      by_cases d : a.drop (i + 1) = b.drop (i + 1)
      · rw [if_pos d, if_pos (by rw [d])]
      · rw [if_neg d, if_neg (fun h => d (List.cons.inj h).2)]
    · rw [if_pos (by simp [c]), if_neg (fun h => c (List.cons.inj h).1)]
theorem same_ok (a b : List Str) (hb : a.length < 9000000000000000000) : f_ref01_Same a b = some (decide (a = b)) := by
  unfold f_ref01_Same
  by_cases c : a.length = b.length
  · have q := same9_ok a b c hb a.length 0 ((((a.length : Int) : Int) - 0).toNat + 1) (by omega) (by omega)
    rw [show ((0 : Nat) : Int) = 0 from rfl, List.drop_zero, List.drop_zero] at q
    rw [if_neg (by simp; omega), q, Option.bind_some]
    by_cases e : a = b
    · rw [if_pos e]; simp [e]
    · rw [if_neg e]; simp [e]
  · rw [if_pos (by simp; omega)]
    have : ¬ a = b := fun h => c (by rw [h])
    simp [this]
theorem may7_ok (l : List Str) (hb : l.length < 9000000000000000000) (k : Nat) : ∀ (i m : Nat), i + k = l.length → k < m →
    f_ref01_May_l7 l m (i : Int) = some (if ∀ x ∈ l.drop i, x.length ≤ 4096 then .inl (l.length : Int) else .inr false) := by
  induction k with
  | zero =>
    intro i m hi hm
    obtain ⟨m, rfl⟩ : ∃ k, m = k + 1 := ⟨m - 1, by omega⟩
    rw [f_ref01_May_l7, if_neg (by simp; omega), List.drop_eq_nil_of_le (by omega), if_pos (by intro x hx; cases hx), show i = l.length by omega]
  | succ k ih =>
    intro i m hi hm
    obtain ⟨m, rfl⟩ : ∃ k, m = k + 1 := ⟨m - 1, by omega⟩
    rw [f_ref01_May_l7, if_pos (by simp; omega), ix_nat, List.getElem?_eq_getElem (by omega), Option.bind_some, List.drop_eq_getElem_cons (show i < l.length by omega)]
    by_cases c : (l[i]'(by omega)).length ≤ 4096
    · rw [if_neg (by simp; omega), w_i64 (by omega) (by omega), show ((i : Int) + 1) = ((i + 1 : Nat) : Int) by omega, ih (i + 1) m (by omega) (by omega)]
      congr 1
      by_cases d : ∀ x ∈ l.drop (i + 1), x.length ≤ 4096
      · rw [if_pos d, if_pos (by intro x hx; rcases List.mem_cons.mp hx with rfl | hx; exact c; exact d x hx)]
      · rw [if_neg d, if_neg (fun h => d (fun x hx => h x (List.mem_cons_of_mem _ hx)))]
    · rw [if_pos (by simp; omega), if_neg (fun h => c (h _ (List.mem_cons_self ..)))]
theorem may_ok (l : List Str) (hb : l.length < 9000000000000000000) : f_ref01_May l = some (decide (mayP l)) := by
  unfold f_ref01_May
  have q := may7_ok l hb l.length 0 ((((l.length : Int) : Int) - 0).toNat + 1) (by omega) (by omega)
  rw [show ((0 : Nat) : Int) = 0 from rfl, List.drop_zero] at q
  rw [q, Option.bind_some]
  by_cases c : ∀ x ∈ l, x.length ≤ 4096
  · rw [if_pos c]
    show some (decide _) = some (decide _)
    congr 1
    rw [decide_eq_decide]
    exact ⟨fun h => ⟨by omega, c⟩, fun h => by have := h.1; omega⟩
  · rw [if_neg c]
    have : ¬ mayP l := fun h => c h.2
    simp [this]
theorem rwide2_ok (n : Nat) (hn : n ≤ 4100) : f_ref01_Wide (IntKind.u64.wrap (n : Int)) 2 = some (two n) := by
  rw [w_u64n (by omega)]
  unfold f_ref01_Wide
  show (f_ref01_Wide_l7 2 3 (n : Int) 0 []).bind _ = _
  rw [f_ref01_Wide_l7, if_pos (by decide), gd_t _ (by simp), f_ref01_Wide_l7, if_pos (by decide), gd_t _ (by simp), f_ref01_Wide_l7, if_neg (by decide), Option.bind_some]
  have d1 : IntKind.u64.wrap ((n : Int).tdiv 256) = (n : Int) / 256 := by rw [Int.tdiv_eq_ediv_of_nonneg (by omega), w_u64 (by omega) (by omega)]
  rw [d1, Int.tmod_eq_emod_of_nonneg (by omega), Int.tmod_eq_emod_of_nonneg (by omega), w_u8, w_u8]
  show some [nb _, nb _] = some [_, _]
  have h1 : nb ((n : Int) % 256 % 256) = UInt8.ofNat n := by unfold nb; apply UInt8.toNat_inj.mp; rw [UInt8.toNat_ofNat', UInt8.toNat_ofNat']; omega
  have h2 : nb ((n : Int) / 256 % 256 % 256) = UInt8.ofNat (n / 256) := by unfold nb; apply UInt8.toNat_inj.mp; rw [UInt8.toNat_ofNat', UInt8.toNat_ofNat']; omega
  rw [h1, h2]
theorem bindP_cons (x : Str) (l : List Str) : bindP (x :: l) = two x.length ++ (x ++ bindP l) := by simp [bindP]
theorem two_len (n : Nat) : (two n).length = 2 := rfl
theorem rbind7_ok (l : List Str) (h1 : l.length ≤ 66) (h2 : ∀ x ∈ l, x.length ≤ 4096) (suf : List Str) : ∀ (pre : List Str) (m : Nat), l = pre ++ suf → suf.length < m →
    f_ref01_Bind_l7 l m (bindP pre) (pre.length : Int) = some (bindP l, (l.length : Int)) := by
  induction suf with
  | nil =>
    intro pre m h hm
    obtain ⟨m, rfl⟩ : ∃ k, m = k + 1 := ⟨m - 1, by omega⟩
    rw [List.append_nil] at h; subst h
    rw [f_ref01_Bind_l7, if_neg (by simp)]
  | cons x r ih =>
    intro pre m h hm
    obtain ⟨m, rfl⟩ : ∃ k, m = k + 1 := ⟨m - 1, by omega⟩
    have hl : l.length = pre.length + 1 + r.length := by rw [h]; simp; omega
    simp only [List.length_cons] at hm
    have hx : x.length ≤ 4096 := h2 x (by rw [h]; simp)
    have hp := bindP_le pre (fun y hy => h2 y (by rw [h]; simp [hy]))
    rw [f_ref01_Bind_l7, if_pos (by simp; omega)]
    have e1 : ix l (pre.length : Int) = some x := by rw [h, ix_nat]; simp
    rw [e1, Option.bind_some, rwide2_ok _ (by omega), Option.bind_some, gd_t _ (by rw [two_len]; omega), gd_t _ (by rw [List.length_append, two_len]; omega), w_i64 (by omega) (by omega)]
    have q := ih (pre ++ [x]) m (by simp [h]) (by omega)
    rw [List.length_append, List.length_singleton, bindP_app, bindP_cons, show bindP [] = [] from rfl, List.append_nil, ← List.append_assoc] at q
    exact q
theorem rbind_ok (l : List Str) (h1 : l.length ≤ 66) (h2 : ∀ x ∈ l, x.length ≤ 4096) : f_ref01_Bind l = some (bindP l) := by
  unfold f_ref01_Bind
  have q := rbind7_ok l h1 h2 l [] ((((l.length : Int) : Int) - 0).toNat + 1) rfl (by omega)
  rw [show bindP [] = ([] : Str) from rfl, show (([] : List Str).length : Int) = 0 from rfl] at q
  rw [q]; rfl
theorem wholeN_two (n : Nat) (h : n < 65536) : wholeN (two n) = n := by
  show (UInt8.ofNat n).toNat + 256 * ((UInt8.ofNat (n / 256)).toNat + 256 * 0) = n
  rw [UInt8.toNat_ofNat', UInt8.toNat_ofNat']; omega
/-- The parts that lie whole in the first k bytes, if the cut falls between two. -/
def cutAt : List Str → Nat → Option (List Str)
  | [], _ => some []
  | x :: t, k => if k = 0 then some [] else if 2 + x.length ≤ k then (cutAt t (k - (2 + x.length))).map (x :: ·) else none
theorem cutAt_len : ∀ (t : List Str) (k : Nat) (p : List Str), cutAt t k = some p → p.length ≤ t.length
  | [], k, p, h => by cases h; simp
  | x :: t, k, p, h => by
    rw [cutAt] at h
    split at h
    · cases h; simp
    · split at h
      · obtain ⟨q, hq, rfl⟩ := Option.map_eq_some_iff.mp h
        have := cutAt_len t _ q hq
        simp; omega
      · cases h
theorem cutAt_all : ∀ (t : List Str), cutAt t (bindP t).length = some t
  | [] => rfl
  | x :: t => by
    have hl : (bindP (x :: t)).length = 2 + x.length + (bindP t).length := by rw [bindP_cons, List.length_append, List.length_append, two_len]; omega
    rw [cutAt, if_neg (by omega), if_pos (by omega), hl, show 2 + x.length + (bindP t).length - (2 + x.length) = (bindP t).length by omega, cutAt_all t]; rfl
def endG (o : Option (List Str)) (out : List Str) : List Str × Int := match o with | some p => (out ++ p, 0) | none => ([], 3)
theorem lg_bind (t : List Str) : ∀ (m k : Nat) (out : List Str), (∀ x ∈ t, x.length ≤ 4096) → out.length + t.length ≤ 64 → k ≤ (bindP t).length → k < m → looseG m ((bindP t).take k) out = endG (cutAt t k) out := by
  induction t with
  | nil =>
    intro m k out _ _ hk hm
    obtain ⟨m, rfl⟩ : ∃ k, m = k + 1 := ⟨m - 1, by omega⟩
    rw [show (bindP []).take k = ([] : Str) by simp [bindP], lg_nil]; simp [cutAt, endG]
  | cons x t ih =>
    intro m k out h1 h2 hk hm
    obtain ⟨m, rfl⟩ : ∃ k, m = k + 1 := ⟨m - 1, by omega⟩
    have hl : (bindP (x :: t)).length = 2 + x.length + (bindP t).length := by rw [bindP_cons, List.length_append, List.length_append, two_len]; omega
    have hx := h1 x (List.mem_cons_self ..)
    simp only [List.length_cons] at h2
    rw [cutAt]
    by_cases c : k = 0
    · subst c; rw [if_pos rfl, List.take_zero, lg_nil]; simp [endG]
    · rw [if_neg c]
      have hne : (bindP (x :: t)).take k ≠ [] := by
        intro h; have := congrArg List.length h; rw [List.length_take, hl] at this; simp at this; omega
      by_cases c1 : k < 2
      · rw [lg_one _ _ _ hne (by rw [List.length_take]; omega), if_neg (by omega)]; rfl
      · have hs : (bindP (x :: t)).take k = two x.length ++ (x ++ bindP t).take (k - 2) := by
          rw [bindP_cons, List.take_append, List.take_of_length_le (by rw [two_len]; omega), two_len]
        have ht : ((bindP (x :: t)).take k).take 2 = two x.length := by rw [hs]; exact List.take_left' rfl
        have hd : ((bindP (x :: t)).take k).drop 2 = (x ++ bindP t).take (k - 2) := by rw [hs]; exact List.drop_left' rfl
        have hw : wholeN (((bindP (x :: t)).take k).take 2) = x.length := by rw [ht]; exact wholeN_two _ (by omega)
        by_cases c2 : 2 + x.length ≤ k
        · rw [lg_step _ _ _ hne (by rw [List.length_take]; omega) (by rw [hw]; omega) (by rw [hw, hd, List.length_take, List.length_append]; omega), hw, hd, if_pos c2, List.take_take, List.drop_take, List.drop_left' rfl, show min x.length (k - 2) = x.length by omega, List.take_left' rfl]
          rw [show k - 2 - x.length = k - (2 + x.length) by omega, ih m (k - (2 + x.length)) (out ++ [x]) (fun y hy => h1 y (List.mem_cons_of_mem _ hy)) (by simp; omega) (by omega) (by omega)]
          cases cutAt t (k - (2 + x.length)) with
          | none => rfl
          | some p => simp [endG]
        · rw [lg_short _ _ _ hne (by rw [List.length_take]; omega) (by rw [hw]; omega) (by rw [hw, hd, List.length_take, List.length_append]; omega), if_neg c2]; rfl
theorem loose_bind (t : List Str) (h : mayP t) (k : Nat) (hk : k ≤ (bindP t).length) : looseS ((bindP t).take k) = endG (cutAt t k) [] := by
  unfold looseS
  rw [List.length_take]
  exact lg_bind t _ k [] h.2 (by have := h.1; simp; omega) hk (by omega)
def anyEnd : List Str → Nat → Nat → Bool
  | [], _, _ => false
  | x :: r, now, k => (now + (2 + x.length) == k) || anyEnd r (now + (2 + x.length)) k
theorem anyEnd_big : ∀ (t : List Str) (now k : Nat), k < now → anyEnd t now k = false
  | [], _, _, _ => rfl
  | x :: r, now, k, h => by
    rw [anyEnd, anyEnd_big r _ _ (by omega)]
    simp; omega
theorem cutAt_some : ∀ (t : List Str) (k now : Nat), k ≤ (bindP t).length → (cutAt t k).isSome = ((k == 0) || anyEnd t now (now + k))
  | [], k, now, h => by
    obtain rfl : k = 0 := by simpa [bindP] using h
    rfl
  | x :: t, k, now, h => by
    have hl : (bindP (x :: t)).length = 2 + x.length + (bindP t).length := by rw [bindP_cons, List.length_append, List.length_append, two_len]; omega
    rw [cutAt, anyEnd]
    by_cases c : k = 0
    · subst c; simp
    · rw [if_neg c]
      by_cases c2 : 2 + x.length ≤ k
      · rw [if_pos c2, Option.isSome_map, cutAt_some t (k - (2 + x.length)) (now + (2 + x.length)) (by omega), show now + (2 + x.length) + (k - (2 + x.length)) = now + k by omega]
        have e1 : (k == 0) = false := by simpa using c
        have e2 : (k - (2 + x.length) == 0) = (now + (2 + x.length) == now + k) := by rw [Bool.eq_iff_iff]; simp; omega
        rw [e1, e2]; rfl
      · rw [if_neg c2, anyEnd_big t _ _ (by omega)]
        have e1 : (k == 0) = false := by simpa using c
        have e2 : (now + (2 + x.length) == now + k) = false := by simp; omega
        rw [e1, e2]; rfl
theorem fewL_le (l : List Str) : ∀ x ∈ fewL l, x.length ≤ 4100 := by
  intro x hx
  obtain ⟨y, _, rfl⟩ := List.mem_map.mp hx
  rw [List.length_take]; omega
theorem bind_ok (t : List Str) (h : t.length ≤ 66) : f_octet_Bind t = some (bindR t) := by unfold f_octet_Bind; rw [gd_t _ (by omega)]
theorem bindR_may {t : List Str} (h : mayP t) : bindR t = (bindP t, 0) := by unfold bindR; rw [if_pos h]
theorem bindR_not {t : List Str} (h : ¬ mayP t) : bindR t = ([], 2) := by unfold bindR; rw [if_neg h]
theorem bounds_u64 {a : Int} (h : (Lit.int .u64 a).wf = true) : 0 ≤ a ∧ a ≤ 18446744073709551615 := by
  have e := (Bool.and_eq_true_iff.mp h); exact ⟨of_decide_eq_true e.1, of_decide_eq_true e.2⟩
def wideP (n : Nat) (k : Nat) : Str := (List.range k).map fun i => UInt8.ofNat (n / 2 ^ (8 * i))
theorem wideP_len (n k : Nat) : (wideP n k).length = k := by simp [wideP]
theorem wideP_succ (n k : Nat) : wideP n (k + 1) = wideP n k ++ [UInt8.ofNat (n / 2 ^ (8 * k))] := by simp [wideP, List.range_succ]
theorem wholeN_wide (n : Nat) : ∀ k, wholeN (wideP n k) = n % 2 ^ (8 * k)
  | 0 => by simp [wideP, wholeN]; omega
  | k + 1 => by
    rw [wideP_succ, wholeN_snoc, wholeN_wide n k, wideP_len, UInt8.toNat_ofNat', show 8 * (k + 1) = 8 * k + 8 by omega, Nat.pow_add, Nat.mod_mul, Nat.mul_comm (2 ^ (8 * k)) (n / 2 ^ (8 * k) % 2 ^ 8)]
theorem wide11_ok (n size : Nat) (hn : n < 2 ^ 64) (hs : size ≤ 8) (k : Nat) : ∀ (i m : Nat), i + k = size → k < m →
    f_octet_Wide_l11 (n : Int) (size : Int) m (i : Int) ((wideP n i).map bn ++ List.replicate k 0) = some ((size : Int), (wideP n size).map bn) := by
  induction k with
  | zero =>
    intro i m hi hm
    obtain ⟨m, rfl⟩ : ∃ k, m = k + 1 := ⟨m - 1, by omega⟩
    rw [f_octet_Wide_l11, if_neg (by simp; omega), show i = size by omega]; simp
  | succ k ih =>
    intro i m hi hm
    obtain ⟨m, rfl⟩ : ∃ k, m = k + 1 := ⟨m - 1, by omega⟩
    have e8 : IntKind.i64.wrap (8 * (i : Int)) = ((8 * i : Nat) : Int) := by rw [w_i64 (by omega) (by omega)]; omega
    rw [f_octet_Wide_l11, if_pos (by simp; omega), e8, gd_t _ (by omega), ix_nat, List.getElem?_append_right (by rw [List.length_map, wideP_len]; omega), List.length_map, wideP_len, Nat.sub_self, show (List.replicate (k + 1) (0 : Int))[0]? = some 0 from rfl, Option.bind_some, w_i64 (by omega) (by omega), Int.toNat_natCast, Int.toNat_natCast, show min (8 * i) IntKind.u64.bits = 8 * i by show min (8 * i) 64 = _; omega,
      List.set_append_right _ _ (by rw [List.length_map, wideP_len]; omega), List.length_map, wideP_len, Nat.sub_self, List.replicate_succ, List.set_cons_zero]
    have ev : IntKind.u8.wrap ((n : Int).fdiv (2 ^ (8 * i))) = bn (UInt8.ofNat (n / 2 ^ (8 * i))) := by
      rw [w_u8, show ((2 : Int) ^ (8 * i)) = ((2 ^ (8 * i) : Nat) : Int) by rw [Int.natCast_pow]; rfl, Int.fdiv_eq_ediv_of_nonneg _ (Int.natCast_nonneg _), ← Int.natCast_ediv]
      unfold bn; rw [UInt8.toNat_ofNat']; generalize n / 2 ^ (8 * i) = z; omega
    rw [ev]
    have q := ih (i + 1) m (by omega) (by omega)
    rw [wideP_succ, List.map_append, List.append_assoc] at q
    exact q
theorem wideN_ok (n size : Nat) (hn : n < 2 ^ 64) (hs : size ≤ 8) : f_octet_Wide (n : Int) (size : Int) = some (if size < 8 ∧ n / 2 ^ (8 * size) ≠ 0 then ([], 2) else (wideP n size, 0)) := by
  unfold f_octet_Wide
  have e8 : IntKind.i64.wrap (8 * (size : Int)) = ((8 * size : Nat) : Int) := by rw [w_i64 (by omega) (by omega)]; omega
  rw [if_neg (by simp; omega), e8, gd_t _ (fun _ => by omega), Int.toNat_natCast, show min (8 * size) IntKind.u64.bits = 8 * size by show min (8 * size) 64 = _; omega, show ((2 : Int) ^ (8 * size)) = ((2 ^ (8 * size) : Nat) : Int) by rw [Int.natCast_pow]; rfl, Int.fdiv_eq_ediv_of_nonneg _ (Int.natCast_nonneg _), ← Int.natCast_ediv]
  by_cases c : size < 8 ∧ n / 2 ^ (8 * size) ≠ 0
  · have h1 : (decide ((size : Int) < 8)) = true := decide_eq_true (by omega)
    have h2 : (((n / 2 ^ (8 * size) : Nat) : Int) != 0) = true := by rw [bne_iff_ne]; have := c.2; omega
    rw [if_pos c, h1, h2]; rfl
  · have h2 : ((decide ((size : Int) < 8)) && (((n / 2 ^ (8 * size) : Nat) : Int) != 0)) = false := by
      rw [Bool.and_eq_false_iff]
      by_cases d : size < 8
      · right; have : n / 2 ^ (8 * size) = 0 := Decidable.not_not.mp (fun h2 => c ⟨d, h2⟩); rw [this]; rfl
      · left; exact decide_eq_false (by omega)
    rw [if_neg c, if_neg (by rw [h2]; decide), gd_t _ (by omega), Int.toNat_natCast]
    have q := wide11_ok n size hn hs size 0 ((((size : Int) : Int) - 0).toNat + 1) (by omega) (by omega)
    rw [show ((0 : Nat) : Int) = 0 from rfl, show (wideP n 0).map bn = [] from rfl, List.nil_append] at q
    rw [q, Option.bind_some, nb_bn]
end Go.Proofs.Ytjhelpeglgigbaa.V.M
end

section
/- The laws DigestParses and DigestBack. -/
namespace Go.Proofs.Ytjhelpeglgigbaa.V.M
set_option linter.unusedVariables false
set_option linter.unusedSimpArgs false
open Go Go.RowKit
theorem w8r (a b : UInt8) (ha : hx a < 16) (hb : hx b < 16) : IntKind.u8.wrap (IntKind.i64.wrap ((IntKind.i64.wrap (16 * (hx a : Int))) + (hx b : Int))) = bn (UInt8.ofNat (16 * hx a + hx b)) := by
  rw [Int.mul_comm]; exact w8h a b ha hb
def refParseS (s : Str) : Str × Bool := if s.length = 71 ∧ s.take 7 = pfx then (match un (s.drop 7) with | some x => (x, true) | none => ([], false)) else ([], false)
theorem parseS_cases (s : Str) : (∃ x, parseS s = (x, 0) ∧ x.length = 32 ∧ refParseS s = (x, true)) ∨ (parseS s = ([], 6) ∧ refParseS s = ([], false)) := by
  unfold parseS refParseS
  by_cases c : s.take 7 = pfx
  · have l7 : 7 ≤ s.length := by have := congrArg List.length c; rw [List.length_take] at this; simp at this; omega
    rw [if_pos c]
    cases e : un (s.drop 7) with
    | none => right; refine ⟨rfl, ?_⟩; split <;> rfl
    | some x =>
      have l := un_len _ _ _ (Nat.le_refl _) e
      rw [List.length_drop] at l
      by_cases d : x.length = 32
      · left; exact ⟨x, by simp [d], d, by rw [if_pos ⟨by omega, c⟩]⟩
      · right; refine ⟨by simp [d], ?_⟩; rw [if_neg (by omega)]
  · right; rw [if_neg c, if_neg (fun h => c h.2)]; exact ⟨rfl, rfl⟩
end Go.Proofs.Ytjhelpeglgigbaa.V.M
end

section
/- The law DigestBack. -/
namespace Go.Proofs.Ytjhelpeglgigbaa.V.M
set_option linter.unusedVariables false
set_option linter.unusedSimpArgs false
open Go Go.RowKit
theorem take_if {α : Type} (x : List α) (n : Nat) (c : Int) (hc : c = (n : Int)) : cut x 0 (if c < (x.length : Int) then c else (x.length : Int)) = x.take n ∧ (0 ≤ (if c < (x.length : Int) then c else (x.length : Int)) ∧ (if c < (x.length : Int) then c else (x.length : Int)) ≤ (x.length : Int)) := by
  subst hc
  by_cases c : n < x.length
  · rw [if_pos (by omega)]; exact ⟨cut_zero x n, by omega⟩
  · rw [if_neg (by omega)]; refine ⟨?_, by omega⟩; rw [cut_zero, List.take_of_length_le (Nat.le_refl _), List.take_of_length_le (by omega)]
theorem join_le (n m : Nat) : ∀ l : List Str, l.length ≤ n → (∀ x ∈ l, x.length ≤ m) → (Lib.join l []).length ≤ n * m := by
  have e : ∀ l : List Str, Lib.join l [] = l.flatten := by
    intro l
    cases l with
    | nil => rfl
    | cons x r =>
      rw [Lib.join_cons, List.flatten_cons]; congr 1
      induction r with
      | nil => rfl
      | cons y r ih => simp [Lib.joinTail] at *
  intro l hl hx
  rw [e]
  have : ∀ l : List Str, (∀ x ∈ l, x.length ≤ m) → l.flatten.length ≤ l.length * m := by
    intro l
    induction l with
    | nil => intro _; simp
    | cons x l ih =>
      intro h
      have a := h x List.mem_cons_self
      have b := ih (fun y hy => h y (List.mem_cons_of_mem _ hy))
      rw [List.flatten_cons, List.length_append, List.length_cons, Nat.add_mul]; omega
  exact Nat.le_trans (this l hx) (Nat.mul_le_mul_right _ hl)
end Go.Proofs.Ytjhelpeglgigbaa.V.M
end

section
/- Names: what a part is, by both texts. -/
namespace Go.Proofs.Ytjhelpeglgigbaa.V.M
set_option linter.unusedVariables false
set_option linter.unusedSimpArgs false
open Go Go.RowKit
def sm (c : UInt8) : Bool := (decide (97 ≤ c.toNat) && decide (c.toNat ≤ 122)) || (decide (48 ≤ c.toNat) && decide (c.toNat ≤ 57))
theorem bn45 (c : UInt8) : (bn c == 45) = decide (c = 45) := u8_all (P := fun c => (bn c == 45) = decide (c = 45)) (by kernel_rfl) c
theorem bn46 (c : UInt8) : (bn c == 46) = decide (c = 46) := u8_all (P := fun c => (bn c == 46) = decide (c = 46)) (by kernel_rfl) c
theorem bn95 (c : UInt8) : (bn c == 95) = decide (c = 95) := u8_all (P := fun c => (bn c == 95) = decide (c = 95)) (by kernel_rfl) c
theorem bn47 (c : UInt8) : (bn c == 47) = decide (c = 47) := u8_all (P := fun c => (bn c == 47) = decide (c = 47)) (by kernel_rfl) c
theorem bn64 (c : UInt8) : (bn c == 64) = decide (c = 64) := u8_all (P := fun c => (bn c == 64) = decide (c = 64)) (by kernel_rfl) c
/-- The rest of a part behind the byte p, run bytes behind the last letter. -/
def partGo : Nat → UInt8 → Str → Bool
  | run, _, [] => run == 0
  | run, p, c :: l => if sm c then partGo 0 c l else if c = 45 then (if run ≠ 0 ∧ p ≠ 45 then false else partGo (run + 1) c l) else if c = 95 ∧ run = 1 ∧ p = 95 then partGo (run + 1) c l else if (c = 95 ∨ c = 46) ∧ run = 0 then partGo (run + 1) c l else false
def partS : Str → Bool
  | [] => false
  | c :: l => sm c && partGo 0 c l
theorem ix_app {α : Type} (pre : List α) (c : α) (l : List α) (n : Nat) (hn : n = pre.length) : ix (pre ++ c :: l) (n : Int) = some c := by subst hn; rw [ix_nat]; simp
theorem getD_app (pre : Str) (c : UInt8) (l : Str) (n : Nat) (hn : n = pre.length) : (pre ++ c :: l).getD n 0 = c := by subst hn; simp
theorem w_nat {n : Nat} (h : n < 9223372036854775808) : IntKind.i64.wrap (n : Int) = n := w_i64 (by omega) (by omega)
theorem w_s {n : Nat} (h : n + 1 < 9223372036854775808) : IntKind.i64.wrap ((n : Int) + 1) = ((n + 1 : Nat) : Int) := by rw [w_i64 (by omega) (by omega)]; rfl
theorem w_p {n : Nat} (h : n < 9223372036854775808) : IntKind.i64.wrap (((n + 1 : Nat) : Int) - 1) = (n : Int) := by rw [w_i64 (by omega) (by omega)]; omega
end Go.Proofs.Ytjhelpeglgigbaa.V.M
end

section
/- Ledger: disks that may be, a half's room, its head, what it tells. -/
namespace Go.Proofs.Ytjhelpeglgigbaa.V.M
set_option linter.unusedVariables false
set_option linter.unusedSimpArgs false
open Go Go.RowKit
/-- What a search says: nothing, or a place. -/
abbrev seekR (b : Bool) (r : Int ⊕ Int) : Prop := (b = true → ∃ j : Nat, r = .inr (j : Int)) ∧ (b = false → ∃ z, r = .inl z)
theorem seekS (s : List Str) (f : Str → Option Bool) (p : Str → Bool) (hf : ∀ x, f x = some (p x)) (hb : s.length < 4611686018427387904) (k : Nat) : ∀ (i m : Nat), i + k = s.length → k < m →
    ∃ r, f_slices_IndexFunc_string_string_l7 s f m (i : Int) = some r ∧ seekR ((s.drop i).any p) r := by
  induction k with
  | zero =>
    intro i m hi hm
    obtain ⟨m, rfl⟩ : ∃ k, m = k + 1 := ⟨m - 1, by omega⟩
    rw [f_slices_IndexFunc_string_string_l7, if_neg (by simp; omega), List.drop_eq_nil_of_le (by omega)]
    exact ⟨_, rfl, And.intro (fun h => by simp at h) (fun _ => ⟨(i : Int), rfl⟩)⟩
  | succ k ih =>
    intro i m hi hm
    obtain ⟨m, rfl⟩ : ∃ k, m = k + 1 := ⟨m - 1, by omega⟩
    rw [f_slices_IndexFunc_string_string_l7, if_pos (by simp; omega), ix_nat, List.getElem?_eq_getElem (by omega), Option.bind_some, hf, Option.bind_some, List.drop_eq_getElem_cons (show i < s.length by omega), List.any_cons]
    by_cases c : p (s[i]'(by omega)) = true
    · rw [if_pos c, c]; exact ⟨_, rfl, And.intro (fun _ => ⟨i, rfl⟩) (fun h => by simp at h)⟩
    · rw [if_neg c, w_s (by omega)]
      have c2 : p (s[i]'(by omega)) = false := by simpa using c
      rw [c2, Bool.false_or]
      exact ih (i + 1) m (by omega) (by omega)
theorem containsS (s : List Str) (f : Str → Option Bool) (p : Str → Bool) (hf : ∀ x, f x = some (p x)) (hb : s.length < 4611686018427387904) : f_slices_ContainsFunc_string_string s f = some (s.any p) := by
  unfold f_slices_ContainsFunc_string_string f_slices_IndexFunc_string_string
  obtain ⟨r, e, h1, h2⟩ := seekS s f p hf hb s.length 0 ((((s.length : Int) : Int) - 0).toNat + 1) (by omega) (by omega)
  rw [show ((0 : Nat) : Int) = 0 from rfl] at e
  rw [List.drop_zero] at h1 h2
  rw [e, Option.bind_some]
  cases c : s.any p with
  | true => obtain ⟨j, rfl⟩ := h1 c; exact congrArg some (decide_eq_true (Int.natCast_nonneg j))
  | false => obtain ⟨z, rfl⟩ := h2 c; rfl
theorem seekW (s : List api_Write) (f : api_Write → Option Bool) (p : api_Write → Bool) (hf : ∀ x, f x = some (p x)) (hb : s.length < 4611686018427387904) (k : Nat) : ∀ (i m : Nat), i + k = s.length → k < m →
    ∃ r, f_slices_IndexFunc_api_Write_api_Write_l7 s f m (i : Int) = some r ∧ seekR ((s.drop i).any p) r := by
  induction k with
  | zero =>
    intro i m hi hm
    obtain ⟨m, rfl⟩ : ∃ k, m = k + 1 := ⟨m - 1, by omega⟩
    rw [f_slices_IndexFunc_api_Write_api_Write_l7, if_neg (by simp; omega), List.drop_eq_nil_of_le (by omega)]
    exact ⟨_, rfl, And.intro (fun h => by simp at h) (fun _ => ⟨(i : Int), rfl⟩)⟩
  | succ k ih =>
    intro i m hi hm
    obtain ⟨m, rfl⟩ : ∃ k, m = k + 1 := ⟨m - 1, by omega⟩
    rw [f_slices_IndexFunc_api_Write_api_Write_l7, if_pos (by simp; omega), ix_nat, List.getElem?_eq_getElem (by omega), Option.bind_some, hf, Option.bind_some, List.drop_eq_getElem_cons (show i < s.length by omega), List.any_cons]
    by_cases c : p (s[i]'(by omega)) = true
    · rw [if_pos c, c]; exact ⟨_, rfl, And.intro (fun _ => ⟨i, rfl⟩) (fun h => by simp at h)⟩
    · rw [if_neg c, w_s (by omega)]
      have c2 : p (s[i]'(by omega)) = false := by simpa using c
      rw [c2, Bool.false_or]
      exact ih (i + 1) m (by omega) (by omega)
theorem containsW (s : List api_Write) (f : api_Write → Option Bool) (p : api_Write → Bool) (hf : ∀ x, f x = some (p x)) (hb : s.length < 4611686018427387904) : f_slices_ContainsFunc_api_Write_api_Write s f = some (s.any p) := by
  unfold f_slices_ContainsFunc_api_Write_api_Write f_slices_IndexFunc_api_Write_api_Write
  obtain ⟨r, e, h1, h2⟩ := seekW s f p hf hb s.length 0 ((((s.length : Int) : Int) - 0).toNat + 1) (by omega) (by omega)
  rw [show ((0 : Nat) : Int) = 0 from rfl] at e
  rw [List.drop_zero] at h1 h2
  rw [e, Option.bind_some]
  cases c : s.any p with
  | true => obtain ⟨j, rfl⟩ := h1 c; exact congrArg some (decide_eq_true (Int.natCast_nonneg j))
  | false => obtain ⟨z, rfl⟩ := h2 c; rfl
def badW (n : Int) (w : api_Write) : Bool := ((decide (w.At < 0)) || (decide (w.At ≥ n))) || ((w.Data.length : Int) != 128)
def badS (s : Str) : Bool := (s.length : Int) != 128
def okB (d : api_Disk) : Bool := (((decide ((d.Sectors.length : Int) ≥ 4)) && (decide ((d.Sectors.length : Int) ≤ 64))) && (decide ((d.Dirty.length : Int) ≤ 200))) && (!d.Sectors.any badS) && (!d.Dirty.any (badW (d.Sectors.length : Int)))
theorem well_ok (l : List api_Write) (n : Int) (hb : l.length < 4611686018427387904) : f_disk_well l n = some (!l.any (badW n)) := by
  unfold f_disk_well
  rw [containsW l (fun a0 => f_disk_well_1 a0 n) (badW n) (fun x => rfl) hb]; rfl
theorem right_ok (d : api_Disk) (h1 : d.Sectors.length < 4611686018427387904) (h2 : d.Dirty.length < 4611686018427387904) : f_disk_Right d = some (okB d) := by
  unfold f_disk_Right okB
  rw [containsS _ f_disk_Right_1 badS (fun x => rfl) h1, well_ok _ _ h2]
  generalize (((decide ((d.Sectors.length : Int) ≥ 4)) && (decide ((d.Sectors.length : Int) ≤ 64))) && (decide ((d.Dirty.length : Int) ≤ 200))) = a
  generalize d.Sectors.any badS = b
  generalize d.Dirty.any (badW (d.Sectors.length : Int)) = c
  cases a <;> cases b <;> cases c <;> rfl
theorem rwell7 (l : List api_Write) (n : Int) (hb : l.length < 4611686018427387904) (k : Nat) : ∀ (i m : Nat), i + k = l.length → k < m →
    f_ref09_Well_l7 l n m (i : Int) = some (if (l.drop i).any (badW n) = true then .inr false else .inl (l.length : Int)) := by
  induction k with
  | zero =>
    intro i m hi hm
    obtain ⟨m, rfl⟩ : ∃ k, m = k + 1 := ⟨m - 1, by omega⟩
    rw [f_ref09_Well_l7, if_neg (by simp; omega), List.drop_eq_nil_of_le (by omega), show i = l.length by omega]; rfl
  | succ k ih =>
    intro i m hi hm
    obtain ⟨m, rfl⟩ : ∃ k, m = k + 1 := ⟨m - 1, by omega⟩
    rw [f_ref09_Well_l7, if_pos (by simp; omega), ix_nat, List.getElem?_eq_getElem (by omega), Option.bind_some, List.drop_eq_getElem_cons (show i < l.length by omega), List.any_cons]
    change (if badW n (l[i]'(by omega)) = true then some (.inr false) else f_ref09_Well_l7 l n m (IntKind.i64.wrap ((i : Int) + 1))) = _
    by_cases c : badW n (l[i]'(by omega)) = true
    · rw [if_pos c, c]; rfl
    · rw [if_neg c, w_s (by omega)]
      have c2 : badW n (l[i]'(by omega)) = false := by simpa using c
      rw [c2, Bool.false_or]
      exact ih (i + 1) m (by omega) (by omega)
theorem rwell_ok (l : List api_Write) (n : Int) (hb : l.length < 4611686018427387904) : f_ref09_Well l n = some (!l.any (badW n)) := by
  unfold f_ref09_Well
  have q := rwell7 l n hb l.length 0 ((((l.length : Int) : Int) - 0).toNat + 1) (by omega) (by omega)
  rw [show ((0 : Nat) : Int) = 0 from rfl, List.drop_zero] at q
  rw [q]
  cases l.any (badW n) <;> rfl
theorem rright7 (d : api_Disk) (hb : d.Sectors.length < 4611686018427387904) (k : Nat) : ∀ (i m : Nat), i + k = d.Sectors.length → k < m →
    f_ref09_Right_l7 d m (i : Int) = some (if (d.Sectors.drop i).any badS = true then .inr false else .inl (d.Sectors.length : Int)) := by
  induction k with
  | zero =>
    intro i m hi hm
    obtain ⟨m, rfl⟩ : ∃ k, m = k + 1 := ⟨m - 1, by omega⟩
    rw [f_ref09_Right_l7, if_neg (by simp; omega), List.drop_eq_nil_of_le (by omega), show i = d.Sectors.length by omega]; rfl
  | succ k ih =>
    intro i m hi hm
    obtain ⟨m, rfl⟩ : ∃ k, m = k + 1 := ⟨m - 1, by omega⟩
    rw [f_ref09_Right_l7, if_pos (by simp; omega), ix_nat, List.getElem?_eq_getElem (by omega), Option.bind_some, List.drop_eq_getElem_cons (show i < d.Sectors.length by omega), List.any_cons]
    change (if badS (d.Sectors[i]'(by omega)) = true then some (.inr false) else f_ref09_Right_l7 d m (IntKind.i64.wrap ((i : Int) + 1))) = _
    by_cases c : badS (d.Sectors[i]'(by omega)) = true
    · rw [if_pos c, c]; rfl
    · rw [if_neg c, w_s (by omega)]
      have c2 : badS (d.Sectors[i]'(by omega)) = false := by simpa using c
      rw [c2, Bool.false_or]
      exact ih (i + 1) m (by omega) (by omega)
theorem rright_ok (d : api_Disk) (h1 : d.Sectors.length < 4611686018427387904) (h2 : d.Dirty.length < 4611686018427387904) : f_ref09_Right d = some (okB d) := by
  unfold f_ref09_Right okB
  have q := rright7 d h1 d.Sectors.length 0 ((((d.Sectors.length : Int) : Int) - 0).toNat + 1) (by omega) (by omega)
  rw [show ((0 : Nat) : Int) = 0 from rfl, List.drop_zero] at q
  rw [q, rwell_ok _ _ h2]
  generalize (((decide ((d.Sectors.length : Int) ≥ 4)) && (decide ((d.Sectors.length : Int) ≤ 64))) && (decide ((d.Dirty.length : Int) ≤ 200))) = a
  generalize d.Sectors.any badS = b
  generalize d.Dirty.any (badW (d.Sectors.length : Int)) = c
  cases a <;> cases b <;> cases c <;> rfl
/-- A disk that may be. -/
structure OkD (d : api_Disk) : Prop where
  lo : 4 ≤ d.Sectors.length
  hi : d.Sectors.length ≤ 64
  dirty : d.Dirty.length ≤ 200
  sect : ∀ s ∈ d.Sectors, s.length = 128
theorem okB_ok {d : api_Disk} (h : okB d = true) : OkD d := by
  unfold okB at h
  simp only [Bool.and_eq_true, decide_eq_true_eq, Bool.not_eq_true', List.any_eq_false] at h
  obtain ⟨⟨⟨⟨h1, h2⟩, h3⟩, h4⟩, h5⟩ := h
  refine ⟨by omega, by omega, by omega, fun s hs => ?_⟩
  have := h4 s hs
  unfold badS at this
  simp at this
  omega
theorem flat128 : ∀ (l : List Str), (∀ s ∈ l, s.length = 128) → l.flatten.length = 128 * l.length
  | [], _ => rfl
  | s :: l, h => by
    rw [List.flatten_cons, List.length_append, flat128 l (fun x hx => h x (List.mem_cons_of_mem _ hx)), h s (List.mem_cons_self ..), List.length_cons]; omega
theorem join_flat (l : List Str) : Lib.join l [] = l.flatten := by
  cases l with
  | nil => rfl
  | cons x r =>
    rw [Lib.join_cons, List.flatten_cons]
    congr 1
    unfold Lib.joinTail
    congr 1
    show List.map (fun x => [] ++ x) r = r
    simp
/-- A half's room. -/
def hf (d : api_Disk) : Nat := d.Sectors.length / 2
def roomL (d : api_Disk) (half : Nat) : List Str := (d.Sectors.drop (half * hf d + 1)).take (hf d - 1)
def roomS (d : api_Disk) (half : Nat) : Str := (roomL d half).flatten
theorem hf_le {d : api_Disk} (h : OkD d) : 2 ≤ hf d ∧ hf d ≤ 32 ∧ 2 * hf d ≤ d.Sectors.length := by
  have := h.lo; have := h.hi; unfold hf; omega
theorem roomL_len {d : api_Disk} (h : OkD d) {half : Nat} (hh : half ≤ 1) : (roomL d half).length = hf d - 1 := by
  have := hf_le h
  unfold roomL
  rw [List.length_take, List.length_drop]
  have : half * hf d ≤ hf d := by rcases Nat.le_one_iff_eq_zero_or_eq_one.mp hh with rfl | rfl <;> omega
  omega
theorem roomL_mem {d : api_Disk} {half : Nat} : ∀ s ∈ roomL d half, s ∈ d.Sectors := fun s hs => List.mem_of_mem_drop (List.mem_of_mem_take hs)
theorem roomS_len {d : api_Disk} (h : OkD d) {half : Nat} (hh : half ≤ 1) : (roomS d half).length = 128 * (hf d - 1) := by
  unfold roomS
  rw [flat128 _ (fun s hs => h.sect s (roomL_mem s hs)), roomL_len h hh]
theorem half_mul {d : api_Disk} (h : OkD d) : IntKind.i64.wrap ((d.Sectors.length : Int).tdiv 2) = (hf d : Int) := by
  have := h.hi
  rw [Int.tdiv_eq_ediv_of_nonneg (by omega), w_i64 (by omega) (by omega)]
  unfold hf; omega
theorem room_ok (d : api_Disk) (h : OkD d) (half : Nat) (hh : half ≤ 1) : f_ledger_room d (half : Int) = some (((half * hf d : Nat) : Int), roomS d half) := by
  have hl := hf_le h
  have hi := h.hi
  have hm : half * hf d ≤ hf d := by rcases Nat.le_one_iff_eq_zero_or_eq_one.mp hh with rfl | rfl <;> omega
  have hm2 : (half + 1) * hf d = half * hf d + hf d := by rw [Nat.add_mul, Nat.one_mul]
  have e1 : IntKind.i64.wrap ((half : Int) * (hf d : Int)) = ((half * hf d : Nat) : Int) := by rw [← Int.natCast_mul, w_nat (by omega)]
  have e2 : IntKind.i64.wrap (((half * hf d : Nat) : Int) + 1) = ((half * hf d + 1 : Nat) : Int) := w_s (by omega)
  have e3 : IntKind.i64.wrap ((half : Int) + 1) = ((half + 1 : Nat) : Int) := w_s (by omega)
  have e4 : IntKind.i64.wrap (((half + 1 : Nat) : Int) * (hf d : Int)) = ((half * hf d + hf d : Nat) : Int) := by rw [← Int.natCast_mul, hm2, w_nat (by omega)]
  unfold f_ledger_room
  rw [half_mul h, e1, e2, e3, e4, gd_t _ (by omega)]
  have ec : cut d.Sectors ((half * hf d + 1 : Nat) : Int) ((half * hf d + hf d : Nat) : Int) = roomL d half := by
    unfold cut roomL
    rw [Int.toNat_natCast, Int.toNat_natCast, List.take_drop, show half * hf d + 1 + (hf d - 1) = half * hf d + hf d by omega]
  rw [ec]
  have ej : f_strings_Join (roomL d half) ([] : Str) = some (roomS d half) := by
    unfold f_strings_Join
    rw [join_flat, gd_t _ ⟨by rw [roomL_len h hh]; omega, by have := roomS_len h hh; unfold roomS at this; rw [this]; omega⟩]; rfl
  rw [ej]; rfl
end Go.Proofs.Ytjhelpeglgigbaa.V.M
end

section
/- Ledger: heads, and what they tell; by both texts. -/
namespace Go.Proofs.Ytjhelpeglgigbaa.V.M
set_option linter.unusedVariables false
set_option linter.unusedSimpArgs false
open Go Go.RowKit
theorem cut_mid {α : Type} (l : List α) (a b : Nat) : cut l (a : Int) ((a + b : Nat) : Int) = (l.drop a).take b := by
  unfold cut
  rw [Int.toNat_natCast, Int.toNat_natCast, List.take_drop]
def headS (g u : Nat) : Str := (([108, 101, 100] : Str) ++ wideP g 6) ++ wideP u 3 ++ List.replicate 116 0
theorem headS_len (g u : Nat) : (headS g u).length = 128 := by simp [headS, wideP_len]
theorem head_ok (g u : Nat) (hg : g < 281474976710656) (hu : u < 16777216) : f_ledger_head (g : Int) (u : Int) = some (headS g u) := by
  unfold f_ledger_head
  have e1 : f_octet_Wide ((g : Nat) : Int) 6 = some (wideP g 6, 0) := by
    have := wideN_ok g 6 (by omega) (by omega)
    rw [if_neg (by intro h; exact h.2 (Nat.div_eq_of_lt (by omega)))] at this
    exact this
  have e2 : f_octet_Wide ((u : Nat) : Int) 3 = some (wideP u 3, 0) := by
    have := wideN_ok u 3 (by omega) (by omega)
    rw [if_neg (by intro h; exact h.2 (Nat.div_eq_of_lt (by omega)))] at this
    exact this
  rw [w_u64n (by omega), w_u64n (by omega), e1, Option.bind_some, e2, Option.bind_some]
  dsimp only
  have l1 : ((([108, 101, 100] : Str) ++ wideP g 6) ++ wideP u 3).length = 12 := by simp [wideP_len]
  have l2 : (([108, 101, 100] : Str) ++ wideP g 6).length = 9 := by simp [wideP_len]
  rw [gd_t _ (by rw [wideP_len]; omega), gd_t _ (by rw [l2, wideP_len]; omega), l1]
  have e3 : f_strings_Repeat ([0] : Str) (IntKind.i64.wrap (128 - ((12 : Nat) : Int))) = some (List.replicate 116 0) := by
    rw [w_i64 (by omega) (by omega)]
    unfold f_strings_Repeat
    rw [gd_t _ (by decide), show ((128 : Int) - ((12 : Nat) : Int)).toNat = 116 from rfl]
    have := Lib.repeatL_replicate (0 : UInt8) 1 116
    exact congrArg some this
  rw [e3, Option.bind_some, gd_t _ (by simp)]; rfl
theorem rwide7 (n size : Nat) (hn : n < 2 ^ 64) (hs : size ≤ 8) (k : Nat) : ∀ (i m : Nat), i + k = size → k < m →
    ∃ z z2, f_ref01_Wide_l7 (size : Int) m ((n / 2 ^ (8 * i) : Nat) : Int) (i : Int) ((wideP n i).map bn) = some (z, z2, (wideP n size).map bn) := by
  induction k with
  | zero =>
    intro i m hi hm
    obtain ⟨m, rfl⟩ : ∃ k, m = k + 1 := ⟨m - 1, by omega⟩
    rw [f_ref01_Wide_l7, if_neg (by simp; omega), show i = size by omega]
    exact ⟨_, _, rfl⟩
  | succ k ih =>
    intro i m hi hm
    obtain ⟨m, rfl⟩ : ∃ k, m = k + 1 := ⟨m - 1, by omega⟩
    have hle : n / 2 ^ (8 * i) ≤ n := Nat.div_le_self _ _
    have d1 : n / 2 ^ (8 * i) / 256 = n / 2 ^ (8 * (i + 1)) := by rw [Nat.div_div_eq_div_mul, show 8 * (i + 1) = 8 * i + 8 by omega, Nat.pow_add]
    have e1 : IntKind.u64.wrap (((n / 2 ^ (8 * i) : Nat) : Int).tdiv 256) = ((n / 2 ^ (8 * (i + 1)) : Nat) : Int) := by
      rw [Int.tdiv_eq_ediv_of_nonneg (Int.natCast_nonneg _), ← d1]
      generalize n / 2 ^ (8 * i) = z at hle
      rw [w_u64 (by omega) (by omega)]; omega
    have e2 : IntKind.u8.wrap (((n / 2 ^ (8 * i) : Nat) : Int).tmod 256) = bn (UInt8.ofNat (n / 2 ^ (8 * i))) := by
      rw [Int.tmod_eq_emod_of_nonneg (Int.natCast_nonneg _), w_u8]
      unfold bn; rw [UInt8.toNat_ofNat']
      generalize n / 2 ^ (8 * i) = z
      omega
    rw [f_ref01_Wide_l7, if_pos (by simp; omega), gd_t _ (by rw [List.length_map, wideP_len]; omega), e1, e2, w_s (by omega)]
    have q := ih (i + 1) m (by omega) (by omega)
    rw [wideP_succ, List.map_append] at q
    exact q
theorem rwideN_ok (n size : Nat) (hn : n < 2 ^ 64) (hs : size ≤ 8) : f_ref01_Wide (n : Int) (size : Int) = some (wideP n size) := by
  unfold f_ref01_Wide
  obtain ⟨z, z2, q⟩ := rwide7 n size hn hs size 0 (((size : Int) - 0).toNat + 1) (by omega) (by omega)
  rw [show ((n / 2 ^ (8 * 0) : Nat) : Int) = (n : Int) by simp, show ((0 : Nat) : Int) = 0 from rfl, show (wideP n 0).map bn = [] from rfl] at q
  rw [q, Option.bind_some, nb_bn]
theorem rhead4 (k : Nat) : ∀ (m : Nat) (s : Str), s.length + k = 128 → k < m → f_ref10_Head_l4 m s = some (s ++ List.replicate k 0) := by
  induction k with
  | zero =>
    intro m s hs hm
    obtain ⟨m, rfl⟩ : ∃ k, m = k + 1 := ⟨m - 1, by omega⟩
    rw [f_ref10_Head_l4_e2, if_neg (by simp; omega)]; simp
  | succ k ih =>
    intro m s hs hm
    obtain ⟨m, rfl⟩ : ∃ k, m = k + 1 := ⟨m - 1, by omega⟩
    rw [f_ref10_Head_l4_e2, if_pos (by simp; omega), gd_t _ (by omega), ih m (s ++ [0]) (by simp; omega) (by omega), List.append_assoc, List.replicate_succ]; rfl
theorem rhead_ok (g u : Nat) (hg : g < 281474976710656) (hu : u < 16777216) : f_ref10_Head (g : Int) (u : Int) = some (headS g u) := by
  unfold f_ref10_Head
  have l1 : ((([108, 101, 100] : Str) ++ wideP g 6) ++ wideP u 3).length = 12 := by simp [wideP_len]
  have l2 : (([108, 101, 100] : Str) ++ wideP g 6).length = 9 := by simp [wideP_len]
  have e1 : f_ref01_Wide ((g : Nat) : Int) 6 = some (wideP g 6) := rwideN_ok g 6 (by omega) (by omega)
  have e2 : f_ref01_Wide ((u : Nat) : Int) 3 = some (wideP u 3) := rwideN_ok u 3 (by omega) (by omega)
  rw [w_u64n (by omega), w_u64n (by omega), e1, Option.bind_some, gd_t _ (by rw [wideP_len]; omega), e2, Option.bind_some, gd_t _ (by rw [l2, wideP_len]; omega), rhead4 116 _ _ (by rw [l1]) (by rw [l1]; decide), Option.bind_some]; rfl
/-- What a half's head tells; 0: nothing. -/
def secS (d : api_Disk) (half : Nat) : Str := d.Sectors.getD (half * hf d) []
def genN (s : Str) : Nat := wholeN ((s.drop 3).take 6)
def usedN (s : Str) : Nat := wholeN ((s.drop 9).take 3)
def toldB (d : api_Disk) (half : Nat) : Bool := decide (1 ≤ genN (secS d half)) && decide (genN (secS d half) ≤ 1099511627776) && decide (usedN (secS d half) ≤ 128 * (hf d - 1)) && (headS (genN (secS d half)) (usedN (secS d half)) == secS d half)
def tellsS (d : api_Disk) (half : Nat) : Nat × Nat := if toldB d half = true then (genN (secS d half), usedN (secS d half)) else (0, 0)
theorem sec_ix {d : api_Disk} (h : OkD d) {half : Nat} (hh : half ≤ 1) : ix d.Sectors ((half * hf d : Nat) : Int) = some (secS d half) ∧ (secS d half).length = 128 := by
  have hl := hf_le h
  have hm : half * hf d ≤ hf d := by rcases Nat.le_one_iff_eq_zero_or_eq_one.mp hh with rfl | rfl <;> omega
  have e : secS d half = d.Sectors[half * hf d]'(by omega) := by unfold secS; rw [List.getD_eq_getElem?_getD, List.getElem?_eq_getElem (by omega)]; rfl
  rw [ix_nat, List.getElem?_eq_getElem (by omega), e]
  exact ⟨rfl, h.sect _ (List.getElem_mem _)⟩
theorem genN_lt (s : Str) : genN s < 281474976710656 := by
  unfold genN
  have h1 := wholeN_lt ((s.drop 3).take 6)
  have h2 : ((s.drop 3).take 6).length ≤ 6 := by rw [List.length_take]; omega
  exact Nat.lt_of_lt_of_le h1 (Nat.pow_le_pow_right (by decide) (show 8 * ((s.drop 3).take 6).length ≤ 48 by omega))
theorem usedN_lt (s : Str) : usedN s < 16777216 := by
  unfold usedN
  have h1 := wholeN_lt ((s.drop 9).take 3)
  have h2 : ((s.drop 9).take 3).length ≤ 3 := by rw [List.length_take]; omega
  exact Nat.lt_of_lt_of_le h1 (Nat.pow_le_pow_right (by decide) (show 8 * ((s.drop 9).take 3).length ≤ 24 by omega))
theorem tells_ok (d : api_Disk) (h : OkD d) (half : Nat) (hh : half ≤ 1) : f_ledger_tells d (half : Int) = some (((tellsS d half).1 : Int), ((tellsS d half).2 : Int)) := by
  obtain ⟨e1, e2⟩ := sec_ix h hh
  have hl := hf_le h
  have hr := roomS_len h hh
  unfold f_ledger_tells tellsS toldB
  rw [room_ok d h half hh, Option.bind_some]
  dsimp only
  rw [e1, Option.bind_some]
  generalize secS d half = s at e2
  have c1 : cut s 3 9 = (s.drop 3).take 6 := cut_mid s 3 6
  have c2 : cut s 9 12 = (s.drop 9).take 3 := cut_mid s 9 3
  have g1 := genN_lt s
  have u1 := usedN_lt s
  rw [gd_t _ (by omega), c1, whole_ok _ (by rw [List.length_take]; omega), Option.bind_some, gd_t _ (by omega), c2, whole_ok _ (by rw [List.length_take]; omega), Option.bind_some]
  dsimp only
  rw [show wholeN ((s.drop 3).take 6) = genN s from rfl, show wholeN ((s.drop 9).take 3) = usedN s from rfl]
  rw [w_nat (n := genN s) (by omega), w_nat (n := usedN s) (by omega), head_ok _ _ g1 u1, hr, w_u64n (by omega)]
  generalize genN s = g at g1
  generalize usedN s = u at u1
  generalize 128 * (hf d - 1) = r
  by_cases a : 1 ≤ g
  · by_cases b : g ≤ 1099511627776
    · by_cases c : u ≤ r
      · have x1 : (decide ((g : Int) < 1)) = false := decide_eq_false (by omega)
        have x2 : (decide ((g : Int) > 1099511627776)) = false := decide_eq_false (by omega)
        have x3 : (decide ((u : Int) > (r : Int))) = false := decide_eq_false (by omega)
        simp only [x1, x2, x3, a, b, c, decide_true, Bool.or_self, Bool.false_or, Bool.true_and, Bool.not_false, gx, if_true, Option.bind_some]
        by_cases e : headS g u = s
        · rw [e]; simp
        · have : (headS g u == s) = false := by simpa using e
          simp [this]
      · have x3 : (decide ((u : Int) > (r : Int))) = true := decide_eq_true (by omega)
        have c' : decide (u ≤ r) = false := decide_eq_false c
        have x1 : (decide ((g : Int) < 1)) = false := decide_eq_false (by omega)
        have x2 : (decide ((g : Int) > 1099511627776)) = false := decide_eq_false (by omega)
        simp only [x1, x2, x3, a, b, c', decide_true, Bool.or_true, Bool.true_or, Bool.or_self, Bool.false_or, Bool.true_and, Bool.and_false, Bool.false_and, Bool.not_true, gx, if_true, Bool.false_eq_true, if_false, Option.bind_some]
        rfl
    · have x2 : (decide ((g : Int) > 1099511627776)) = true := decide_eq_true (by omega)
      have b' : decide (g ≤ 1099511627776) = false := decide_eq_false b
      simp [x2, b', gx]
  · have x1 : (decide ((g : Int) < 1)) = true := decide_eq_true (by omega)
    have a' : decide (1 ≤ g) = false := decide_eq_false a
    simp [x1, a', gx]
end Go.Proofs.Ytjhelpeglgigbaa.V.M
end

section
/- Ledger: the reference's half; entries, by both texts. -/
namespace Go.Proofs.Ytjhelpeglgigbaa.V.M
set_option linter.unusedVariables false
set_option linter.unusedSimpArgs false
open Go Go.RowKit
theorem rAt_ok (d : api_Disk) (h : OkD d) (half : Nat) (hh : half ≤ 1) : f_ref10_At d (half : Int) = some ((half * hf d : Nat) : Int) := by
  have hl := hf_le h
  have hm : half * hf d ≤ hf d := by rcases Nat.le_one_iff_eq_zero_or_eq_one.mp hh with rfl | rfl <;> omega
  unfold f_ref10_At
  rw [half_mul h, ← Int.natCast_mul, w_nat (by omega)]
theorem rroom7 (d : api_Disk) (h : OkD d) (half : Nat) (hh : half ≤ 1) (k : Nat) : ∀ (i m : Nat), 1 ≤ i → i + k = hf d → k < m →
    ∃ z, f_ref10_Room_l7 d (half : Int) m (((d.Sectors.drop (half * hf d + 1)).take (i - 1)).flatten) (i : Int) = some (roomS d half, z) := by
  have hl := hf_le h
  have hhi := h.hi
  have hm : half * hf d ≤ hf d := by rcases Nat.le_one_iff_eq_zero_or_eq_one.mp hh with rfl | rfl <;> omega
  induction k with
  | zero =>
    intro i m h1 hi hm
    obtain ⟨m, rfl⟩ : ∃ k, m = k + 1 := ⟨m - 1, by omega⟩
    rw [f_ref10_Room_l7, half_mul h, if_neg (by simp; omega), show i = hf d by omega]
    exact ⟨_, rfl⟩
  | succ k ih =>
    intro i m h1 hi hmm
    obtain ⟨m, rfl⟩ : ∃ k, m = k + 1 := ⟨m - 1, by omega⟩
    have e1 : IntKind.i64.wrap ((half : Int) * (hf d : Int)) = ((half * hf d : Nat) : Int) := by rw [← Int.natCast_mul, w_nat (by omega)]
    have e2 : IntKind.i64.wrap (((half * hf d : Nat) : Int) + (i : Int)) = ((half * hf d + i : Nat) : Int) := by rw [← Int.natCast_add, w_nat (by omega)]
    have ex : (d.Sectors.drop (half * hf d + 1))[i - 1]? = some (d.Sectors[half * hf d + i]'(by omega)) := by
      rw [List.getElem?_drop, show half * hf d + 1 + (i - 1) = half * hf d + i by omega, List.getElem?_eq_getElem (by omega)]
    have et : ((d.Sectors.drop (half * hf d + 1)).take (i - 1 + 1)).flatten = ((d.Sectors.drop (half * hf d + 1)).take (i - 1)).flatten ++ d.Sectors[half * hf d + i]'(by omega) := by
      rw [List.take_add_one, ex, List.flatten_append]; simp
    have l1 : ((d.Sectors.drop (half * hf d + 1)).take (i - 1)).flatten.length ≤ 128 * 64 := by
      rw [flat128 _ (fun s hs => h.sect s (List.mem_of_mem_drop (List.mem_of_mem_take hs))), List.length_take]; omega
    have l2 := h.sect _ (List.getElem_mem (show half * hf d + i < d.Sectors.length by omega))
    rw [f_ref10_Room_l7, half_mul h, if_pos (by simp; omega), e1, e2, ix_nat, List.getElem?_eq_getElem (by omega), Option.bind_some, gd_t _ (by omega), w_s (by omega), ← et, show i - 1 + 1 = i + 1 - 1 by omega]
    exact ih (i + 1) m (by omega) (by omega) (by omega)
theorem rroom_ok (d : api_Disk) (h : OkD d) (half : Nat) (hh : half ≤ 1) : f_ref10_Room d (half : Int) = some (roomS d half) := by
  have hl := hf_le h
  unfold f_ref10_Room
  rw [half_mul h]
  obtain ⟨z, q⟩ := rroom7 d h half hh (hf d - 1) 1 ((((hf d : Nat) : Int) - 1).toNat + 1) (by omega) (by omega) (by omega)
  rw [Nat.sub_self, List.take_zero, show ((1 : Nat) : Int) = 1 from rfl] at q
  rw [show ([] : List Str).flatten = ([] : Str) from rfl] at q
  rw [q]; rfl
theorem rUsed_ok (d : api_Disk) (h : OkD d) (half : Nat) (hh : half ≤ 1) : f_ref10_Used d (half : Int) = some ((usedN (secS d half) : Nat) : Int) := by
  obtain ⟨e1, e2⟩ := sec_ix h hh
  unfold f_ref10_Used
  rw [rAt_ok d h half hh, Option.bind_some, e1, Option.bind_some]
  generalize secS d half = s at e2
  have c2 : cut s 9 12 = (s.drop 9).take 3 := cut_mid s 9 3
  have u1 := usedN_lt s
  rw [gd_t _ (by omega), c2, rwhole_ok _ (by rw [List.length_take]; omega), Option.bind_some, show wholeN ((s.drop 9).take 3) = usedN s from rfl, w_nat (by omega)]
theorem rGen_ok (d : api_Disk) (h : OkD d) (half : Nat) (hh : half ≤ 1) : f_ref10_Gen d (half : Int) = some (((tellsS d half).1 : Nat) : Int) := by
  obtain ⟨e1, e2⟩ := sec_ix h hh
  have hl := hf_le h
  have hr := roomS_len h hh
  unfold f_ref10_Gen tellsS toldB
  rw [rAt_ok d h half hh, Option.bind_some, e1, Option.bind_some]
  generalize secS d half = s at e2
  have c1 : cut s 3 9 = (s.drop 3).take 6 := cut_mid s 3 6
  have c2 : cut s 9 12 = (s.drop 9).take 3 := cut_mid s 9 3
  have g1 := genN_lt s
  have u1 := usedN_lt s
  rw [gd_t _ (by omega), c1, rwhole_ok _ (by rw [List.length_take]; omega), Option.bind_some, gd_t _ (by omega), c2, rwhole_ok _ (by rw [List.length_take]; omega), Option.bind_some]
  rw [show wholeN ((s.drop 3).take 6) = genN s from rfl, show wholeN ((s.drop 9).take 3) = usedN s from rfl]
  rw [w_nat (n := genN s) (by omega), w_nat (n := usedN s) (by omega), rhead_ok _ _ g1 u1, rroom_ok d h half hh]
  generalize genN s = g at g1
  generalize usedN s = u at u1
  by_cases a : 1 ≤ g
  · by_cases b : g ≤ 1099511627776
    · have x1 : (decide ((g : Int) < 1)) = false := decide_eq_false (by omega)
      have x2 : (decide ((g : Int) > 1099511627776)) = false := decide_eq_false (by omega)
      simp only [x1, x2, a, b, decide_true, Bool.or_self, Bool.false_or, Bool.true_and, Bool.not_false, gx, if_true, Option.bind_some, hr]
      rw [w_u64n (by omega)]
      generalize 128 * (hf d - 1) = r
      by_cases c : u ≤ r
      · have x3 : (decide ((u : Int) > (r : Int))) = false := decide_eq_false (by omega)
        simp only [x3, c, decide_true, Bool.not_false, Bool.false_or, Bool.true_and, if_true, Option.bind_some]
        by_cases e : headS g u = s
        · rw [e]; simp
        · have : (headS g u == s) = false := by simpa using e
          simp [this]
      · have x3 : (decide ((u : Int) > (r : Int))) = true := decide_eq_true (by omega)
        have c' : decide (u ≤ r) = false := decide_eq_false c
        simp only [x3, c', Bool.not_true, Bool.true_or, Bool.false_and, Bool.false_eq_true, if_false, if_true, Option.bind_some]; rfl
    · have x1 : (decide ((g : Int) < 1)) = false := decide_eq_false (by omega)
      have x2 : (decide ((g : Int) > 1099511627776)) = true := decide_eq_true (by omega)
      have b' : decide (g ≤ 1099511627776) = false := decide_eq_false b
      simp only [x1, x2, b', Bool.or_true, Bool.true_or, Bool.not_true, Bool.and_false, Bool.false_and, gx, Bool.false_eq_true, if_false, if_true, Option.bind_some]; rfl
  · have x1 : (decide ((g : Int) < 1)) = true := decide_eq_true (by omega)
    have a' : decide (1 ≤ g) = false := decide_eq_false a
    simp only [x1, a', Bool.true_or, Bool.not_true, Bool.false_and, gx, Bool.false_eq_true, if_false, if_true, Option.bind_some]; rfl
/-- Entries of bytes. -/
def entG : Nat → Str → List Str → Option (List Str)
  | 0, _, _ => none
  | m + 1, s, out =>
    if s = [] then some out
    else if s.length < 2 then none
    else if 4096 < wholeN (s.take 2) ∨ (s.drop 2).length < wholeN (s.take 2) then none
    else entG m ((s.drop 2).drop (wholeN (s.take 2))) (out ++ [(s.drop 2).take (wholeN (s.take 2))])
def entS (s : Str) : Option (List Str) := entG (s.length + 1) s []
def entR (o : Option (List Str)) : List Str × Bool := match o with | some l => (l, true) | none => ([], false)
def entX (o : Option (List Str)) : (Str × (List Str)) ⊕ ((List Str) × Bool) := match o with | some l => .inl ([], l) | none => .inr ([], false)
theorem ent10 (s0 : Str) (m : Nat) : ∀ (s : Str) (out : List Str), s.length ≤ 1000000 → s.length < m → out.length + s.length ≤ 2000000 → f_ledger_entries_l10 s0 m s out = some (entX (entG m s out)) := by
  induction m with
  | zero => intro s out _ h _; omega
  | succ m ih =>
    intro s out hs hm ho
    rw [f_ledger_entries_l10]
    by_cases c : s = []
    · subst c; rw [if_neg (by decide), entG, if_pos rfl]; rfl
    · rw [if_pos (by simp [c])]
      by_cases c1 : s.length < 2
      · rw [if_pos (by simp; omega), entG, if_neg c, if_pos c1]; rfl
      · rw [if_neg (by simp; omega), gd_t _ (by omega), show cut s 0 2 = s.take 2 from cut_zero s 2, whole_ok _ (by rw [List.length_take]; omega), Option.bind_some, gd_t _ (by omega), show cut s 2 (s.length : Int) = s.drop 2 from cut_all s 2]
        have hw := wholeN_lt (s.take 2)
        have l2 : (s.take 2).length = 2 := by rw [List.length_take]; omega
        rw [l2] at hw
        have ld : (s.drop 2).length = s.length - 2 := List.length_drop
        rw [w_u64n (n := (s.drop 2).length) (by omega)]
        by_cases c2 : 4096 < wholeN (s.take 2) ∨ (s.drop 2).length < wholeN (s.take 2)
        · rw [if_pos (by simp; omega), entG, if_neg c, if_neg c1, if_pos c2]; rfl
        · rw [if_neg (by simp; omega), gd_t _ (by dsimp only; omega), gd_t _ (by omega), gd_t _ (by dsimp only; omega), cut_all, cut_zero, entG, if_neg c, if_neg c1, if_neg c2]
          exact ih _ _ (by simp only [List.length_drop]; omega) (by simp only [List.length_drop]; omega) (by simp only [List.length_drop, List.length_append, List.length_singleton]; omega)
theorem entries_ok (s : Str) (hs : s.length ≤ 1000000) : f_ledger_entries s = some (entR (entS s)) := by
  unfold f_ledger_entries entS
  rw [ent10 s (s.length + 1) s [] hs (by omega) (by simp; omega), Option.bind_some]
  cases entG (s.length + 1) s [] <;> rfl
end Go.Proofs.Ytjhelpeglgigbaa.V.M
end

section
/- Ledger: what a disk has, by both texts. -/
namespace Go.Proofs.Ytjhelpeglgigbaa.V.M
set_option linter.unusedVariables false
set_option linter.unusedSimpArgs false
open Go Go.RowKit
def okX (s : Str) (o : Option (List Str)) (r : (Int × (List Str)) ⊕ ((List Str) × Bool)) : Prop := match o with | some l => r = .inl ((s.length : Int), l) | none => r = .inr ([], false)
theorem rent11 (s : Str) (hs : s.length ≤ 1000000) (m : Nat) : ∀ (a M : Nat) (out : List Str), a ≤ s.length → s.length - a < m → s.length - a < M → out.length + (s.length - a) ≤ 2000000 → ∃ r, f_ref10_Entries_l11 s m (a : Int) out = some r ∧ okX s (entG M (s.drop a) out) r := by
  induction m with
  | zero => intro a M out _ h _; omega
  | succ m ih =>
    intro a M out ha hm hM ho
    obtain ⟨M, rfl⟩ : ∃ k, M = k + 1 := ⟨M - 1, by omega⟩
    have ld : (s.drop a).length = s.length - a := List.length_drop
    rw [f_ref10_Entries_l11, entG]
    by_cases c : a = s.length
    · rw [if_neg (by simp; omega), if_pos (List.drop_eq_nil_of_le (by omega))]
      exact ⟨_, rfl, by rw [c]; rfl⟩
    · have hne : s.drop a ≠ [] := by intro h; rw [h] at ld; simp at ld; omega
      rw [if_pos (by simp; omega), if_neg hne, w_i64 (n := (s.length : Int) - (a : Int)) (by omega) (by omega)]
      by_cases c1 : (s.drop a).length < 2
      · rw [if_pos (by simp; omega), if_pos c1]; exact ⟨_, rfl, rfl⟩
      · have e2 : IntKind.i64.wrap ((a : Int) + 2) = ((a + 2 : Nat) : Int) := by rw [w_i64 (by omega) (by omega)]; omega
        have hw := wholeN_lt ((s.drop a).take 2)
        have l2 : ((s.drop a).take 2).length = 2 := by rw [List.length_take]; omega
        rw [l2] at hw
        have ld2 : ((s.drop a).drop 2).length = s.length - a - 2 := by rw [List.length_drop, ld]
        rw [if_neg (by simp; omega), if_neg c1, e2, gd_t _ (by omega), show cut s (a : Int) ((a + 2 : Nat) : Int) = (s.drop a).take 2 from cut_mid s a 2, rwhole_ok _ (by omega), Option.bind_some, w_nat (n := wholeN ((s.drop a).take 2)) (by omega), w_i64 (n := (s.length : Int) - (a : Int) - 2) (by omega) (by omega)]
        have hd : ((s.drop a).drop 2).drop (wholeN ((s.drop a).take 2)) = s.drop (a + 2 + wholeN ((s.drop a).take 2)) := by rw [List.drop_drop, List.drop_drop, Nat.add_assoc]
        have hdt : ((s.drop a).drop 2).take (wholeN ((s.drop a).take 2)) = (s.drop (a + 2)).take (wholeN ((s.drop a).take 2)) := by rw [List.drop_drop]
        rw [hd, hdt]
        generalize wholeN ((s.drop a).take 2) = v at hw ⊢
        by_cases c2 : 4096 < v ∨ ((s.drop a).drop 2).length < v
        · rw [if_pos (by simp; omega), if_pos c2]; exact ⟨_, rfl, rfl⟩
        · have e3 : IntKind.i64.wrap (((a + 2 : Nat) : Int) + (v : Int)) = ((a + 2 + v : Nat) : Int) := by rw [← Int.natCast_add, w_nat (by omega)]
          rw [if_neg (by simp; omega), if_neg c2, e3, gd_t _ (by omega), gd_t _ (by omega), show cut s ((a + 2 : Nat) : Int) ((a + 2 + v : Nat) : Int) = (s.drop (a + 2)).take v from cut_mid s (a + 2) v]
          exact ih (a + 2 + v) M _ (by omega) (by omega) (by omega) (by simp; omega)
theorem rentries_ok (s : Str) (hs : s.length ≤ 1000000) : f_ref10_Entries s = some (entR (entS s)) := by
  unfold f_ref10_Entries entS
  obtain ⟨r, e, q⟩ := rent11 s hs ((((s.length : Int) : Int) - 0).toNat + 1) 0 (s.length + 1) [] (by omega) (by omega) (by omega) (by simp; omega)
  rw [show ((0 : Nat) : Int) = 0 from rfl] at e
  rw [List.drop_zero] at q
  rw [e, Option.bind_some]
  cases h : entG (s.length + 1) s [] with
  | none => rw [h] at q; obtain rfl := (show r = .inr ([], false) from q); rfl
  | some l => rw [h] at q; obtain rfl := (show r = .inl ((s.length : Int), l) from q); rfl
abbrev zeroL : api_Ledger := api_Ledger.mk (api_Disk.mk ([] : (List Str)) ([] : (List api_Write))) 0 0 0 ([] : (List Str))
/-- The half that is told: its number, its generation, its bytes. -/
def pickS (d : api_Disk) : Nat × Nat × Nat := if (tellsS d 0).1 < (tellsS d 1).1 then (1, tellsS d 1) else (0, tellsS d 0)
def openS (d : api_Disk) : api_Ledger × Int :=
  if (!okB d) || (decide ((d.Dirty.length : Int) > 0)) then (zeroL, 1)
  else match entS ((roomS d (pickS d).1).take (pickS d).2.2) with
    | none => (zeroL, 14)
    | some l => if (pickS d).2.1 = 0 then (zeroL, 14) else (api_Ledger.mk d (pickS d).1 (pickS d).2.1 (pickS d).2.2 l, 0)
theorem tells_le (d : api_Disk) (half : Nat) : (tellsS d half).2 ≤ 128 * (hf d - 1) ∧ (tellsS d half).1 ≤ 1099511627776 ∧ ((tellsS d half).1 ≠ 0 → (tellsS d half).2 = usedN (secS d half)) ∧ ((tellsS d half).1 = 0 → (tellsS d half).2 = 0) := by
  unfold tellsS
  by_cases c : toldB d half = true
  · rw [if_pos c]
    unfold toldB at c
    simp only [Bool.and_eq_true, decide_eq_true_eq] at c
    exact ⟨c.1.2, c.1.1.2, fun _ => rfl, fun h => by have := c.1.1.1; dsimp only at h; omega⟩
  · rw [if_neg c]; exact ⟨Nat.zero_le _, Nat.zero_le _, fun h => absurd rfl h, fun _ => rfl⟩
theorem pick_le (d : api_Disk) : (pickS d).1 ≤ 1 ∧ (pickS d).2.2 ≤ 128 * (hf d - 1) := by
  unfold pickS
  split
  · exact ⟨Nat.le_refl _, (tells_le d 1).1⟩
  · exact ⟨Nat.zero_le _, (tells_le d 0).1⟩
theorem open_ok (d : api_Disk) (h1 : d.Sectors.length < 4611686018427387904) (h2 : d.Dirty.length < 4611686018427387904) : f_ledger_Open d = some (openS d) := by
  unfold f_ledger_Open openS
  rw [right_ok d h1 h2, Option.bind_some]
  by_cases c : ((!okB d) || (decide ((d.Dirty.length : Int) > 0))) = true
  · rw [if_pos c, if_pos c]
  · rw [if_neg c, if_neg c]
    have hok : OkD d := okB_ok (by cases h : okB d <;> simp [h] at c ⊢)
    have hl := hf_le hok
    have hp := pick_le d
    have hr := roomS_len hok hp.1
    have e0 : f_ledger_tells d 0 = some (((tellsS d 0).1 : Int), ((tellsS d 0).2 : Int)) := tells_ok d hok 0 (by decide)
    have e1 : f_ledger_tells d 1 = some (((tellsS d 1).1 : Int), ((tellsS d 1).2 : Int)) := tells_ok d hok 1 (by decide)
    have z0 := (tells_le d 0).2.2.2
    have el : f_ledger_Open_l11 d (((2 : Int) - 0).toNat + 1) 0 0 0 0 = some (2, ((pickS d).1 : Int), ((pickS d).2.1 : Int), ((pickS d).2.2 : Int)) := by
      show f_ledger_Open_l11 d 3 0 0 0 0 = _
      rw [f_ledger_Open_l11, if_pos (by decide), e0, Option.bind_some]
      dsimp only
      have w1 : IntKind.i64.wrap ((0 : Int) + 1) = 1 := by decide
      have w2 : IntKind.i64.wrap ((1 : Int) + 1) = 2 := by decide
      unfold pickS
      by_cases a : (tellsS d 0).1 = 0
      · rw [if_neg (by simp; omega), w1, f_ledger_Open_l11, if_pos (by decide), e1, Option.bind_some]
        dsimp only
        by_cases b : (tellsS d 0).1 < (tellsS d 1).1
        · rw [if_pos (by simp; omega), w2, f_ledger_Open_l11, if_neg (by decide), if_pos b]; rfl
        · rw [if_neg (by simp; omega), w2, f_ledger_Open_l11, if_neg (by decide), if_neg b, a, z0 a]; rfl
      · rw [if_pos (by simp; omega), w1, f_ledger_Open_l11, if_pos (by decide), e1, Option.bind_some]
        dsimp only
        by_cases b : (tellsS d 0).1 < (tellsS d 1).1
        · rw [if_pos (by simp; omega), w2, f_ledger_Open_l11, if_neg (by decide), if_pos b]; rfl
        · rw [if_neg (by simp; omega), w2, f_ledger_Open_l11, if_neg (by decide), if_neg b]; rfl
    rw [el, Option.bind_some]
    dsimp only
    rw [room_ok d hok _ hp.1, Option.bind_some]
    dsimp only
    rw [gd_t _ (by omega), cut_zero, entries_ok _ (by rw [List.length_take]; omega), Option.bind_some]
    cases entS ((roomS d (pickS d).1).take (pickS d).2.2) with
    | none => simp [entR]
    | some l =>
      by_cases a : (pickS d).2.1 = 0
      · simp [entR, a]
      · simp [entR, a]
theorem ropen_ok (d : api_Disk) (h1 : d.Sectors.length < 4611686018427387904) (h2 : d.Dirty.length < 4611686018427387904) : f_ref10_Open d = some (openS d) := by
  unfold f_ref10_Open openS
  rw [rright_ok d h1 h2, Option.bind_some]
  by_cases c : ((!okB d) || (decide ((d.Dirty.length : Int) > 0))) = true
  · rw [if_pos c, if_pos c]
  · rw [if_neg c, if_neg c]
    have hok : OkD d := okB_ok (by cases h : okB d <;> simp [h] at c ⊢)
    have hl := hf_le hok
    have e0 : f_ref10_Gen d 0 = some ((tellsS d 0).1 : Int) := rGen_ok d hok 0 (by decide)
    have e1 : f_ref10_Gen d 1 = some ((tellsS d 1).1 : Int) := rGen_ok d hok 1 (by decide)
    rw [e0, Option.bind_some, e1, Option.bind_some]
    by_cases a : (tellsS d 0).1 = 0 ∧ (tellsS d 1).1 = 0
    · rw [if_pos (by simp [a.1, a.2])]
      have hp : (pickS d).2.1 = 0 := by unfold pickS; rw [if_neg (by omega)]; exact a.1
      rw [hp]
      cases entS ((roomS d (pickS d).1).take (pickS d).2.2) <;> simp
    · have key : ∀ half : Nat, half ≤ 1 → pickS d = (half, tellsS d half) → (tellsS d half).1 ≠ 0 →
          ((f_ref10_Used d (half : Int)).bind fun t4 => (f_ref10_Room d (half : Int)).bind fun t5 => gd (0 ≤ t4 ∧ t4 ≤ (t5.length : Int)) <| (f_ref10_Entries (cut t5 0 t4)).bind fun t6 =>
            if (!t6.2) then some ((api_Ledger.mk (api_Disk.mk ([] : (List Str)) ([] : (List api_Write))) 0 0 0 ([] : (List Str))), (14 : Int)) else some ((api_Ledger.mk d (half : Int) ((tellsS d half).1 : Int) t4 t6.1), (0 : Int))) =
          some (match entS ((roomS d (pickS d).1).take (pickS d).2.2) with | none => (zeroL, (14 : Int)) | some l => if (pickS d).2.1 = 0 then (zeroL, 14) else (api_Ledger.mk d (pickS d).1 (pickS d).2.1 (pickS d).2.2 l, 0)) := by
        intro half hh hp hg
        have ht := tells_le d half
        have hr := roomS_len hok hh
        rw [hp, rUsed_ok d hok half hh, Option.bind_some, rroom_ok d hok half hh, Option.bind_some, ← ht.2.2.1 hg, gd_t _ (by omega), cut_zero, rentries_ok _ (by rw [List.length_take]; omega), Option.bind_some]
        dsimp only
        cases entS ((roomS d half).take (tellsS d half).2) with
        | none => simp [entR]
        | some l => simp [entR, hg]
      rw [if_neg (by simp; omega)]
      by_cases b : (tellsS d 0).1 < (tellsS d 1).1
      · rw [if_pos (by simp; omega), Option.bind_some]
        have q := key 1 (by decide) (by unfold pickS; rw [if_pos b]) (by omega)
        rw [show ((1 : Nat) : Int) = 1 from rfl] at q
        exact q
      · rw [if_neg (by simp; omega), Option.bind_some]
        have q := key 0 (by decide) (by unfold pickS; rw [if_neg b]) (by omega)
        rw [show ((0 : Nat) : Int) = 0 from rfl] at q
        exact q
end Go.Proofs.Ytjhelpeglgigbaa.V.M
end

section
/- Ledger: the law LedgerOpens. -/
namespace Go.Proofs.Ytjhelpeglgigbaa.V.M
set_option linter.unusedVariables false
set_option linter.unusedSimpArgs false
open Go Go.RowKit
theorem equal9_ok (a b : List Str) (hl : a.length = b.length) (hb : a.length < 9000000000000000000) (k : Nat) : ∀ (i m : Nat), i + k = a.length → k < m →
    f_slices_Equal_string_string_l9 a b m (i : Int) = some (if a.drop i = b.drop i then .inl (a.length : Int) else .inr false) := by
  induction k with
  | zero =>
    intro i m hi hm
    obtain ⟨m, rfl⟩ : ∃ k, m = k + 1 := ⟨m - 1, by omega⟩
    rw [f_slices_Equal_string_string_l9, if_neg (by simp; omega), List.drop_eq_nil_of_le (by omega), List.drop_eq_nil_of_le (by omega), if_pos rfl, show i = a.length by omega]
  | succ k ih =>
    intro i m hi hm
    obtain ⟨m, rfl⟩ : ∃ k, m = k + 1 := ⟨m - 1, by omega⟩
    rw [f_slices_Equal_string_string_l9, if_pos (by simp; omega), ix_nat, List.getElem?_eq_getElem (by omega), Option.bind_some, ix_nat, List.getElem?_eq_getElem (by omega), Option.bind_some, List.drop_eq_getElem_cons (show i < a.length by omega), List.drop_eq_getElem_cons (show i < b.length by omega)]
    by_cases c : a[i]'(by omega) = b[i]'(by omega)
    · rw [if_neg (by simp [c]), w_i64 (by omega) (by omega), show ((i : Int) + 1) = ((i + 1 : Nat) : Int) by omega, ih (i + 1) m (by omega) (by omega), c]
      congr 1
      by_cases d : a.drop (i + 1) = b.drop (i + 1)
      · rw [if_pos d, if_pos (by rw [d])]
      · rw [if_neg d, if_neg (fun h => d (List.cons.inj h).2)]
    · rw [if_pos (by simp [c]), if_neg (fun h => c (List.cons.inj h).1)]
theorem equal_ok (a b : List Str) (hb : a.length < 9000000000000000000) : f_slices_Equal_string_string a b = some (decide (a = b)) := by
  unfold f_slices_Equal_string_string
  by_cases c : a.length = b.length
  · have q := equal9_ok a b c hb a.length 0 ((((a.length : Int) : Int) - 0).toNat + 1) (by omega) (by omega)
    rw [show ((0 : Nat) : Int) = 0 from rfl, List.drop_zero, List.drop_zero] at q
    rw [if_neg (by simp; omega), q, Option.bind_some]
    by_cases e : a = b
    · rw [if_pos e]; simp [e]
    · rw [if_neg e]; simp [e]
  · rw [if_pos (by simp; omega)]
    have : ¬ a = b := fun h => c (by rw [h])
    simp [this]
theorem like9 (d : api_Disk) (hb : d.Sectors.length < 9000000000000000000) (k : Nat) : ∀ (i m : Nat), i + k = d.Sectors.length → k < m → f_ref09_Like_l9 d d m (i : Int) = some (.inl (d.Sectors.length : Int)) := by
  induction k with
  | zero =>
    intro i m hi hm
    obtain ⟨m, rfl⟩ : ∃ k, m = k + 1 := ⟨m - 1, by omega⟩
    rw [f_ref09_Like_l9, if_neg (by simp; omega), show i = d.Sectors.length by omega]
  | succ k ih =>
    intro i m hi hm
    obtain ⟨m, rfl⟩ : ∃ k, m = k + 1 := ⟨m - 1, by omega⟩
    rw [f_ref09_Like_l9, if_pos (by simp; omega), ix_nat, List.getElem?_eq_getElem (by omega), Option.bind_some, Option.bind_some, if_neg (by simp), w_i64 (by omega) (by omega), show ((i : Int) + 1) = ((i + 1 : Nat) : Int) by omega]
    exact ih (i + 1) m (by omega) (by omega)
theorem like16 (d : api_Disk) (hb : d.Dirty.length < 9000000000000000000) (k : Nat) : ∀ (i m : Nat), i + k = d.Dirty.length → k < m → f_ref09_Like_l16 d d m (i : Int) = some (.inl (d.Dirty.length : Int)) := by
  induction k with
  | zero =>
    intro i m hi hm
    obtain ⟨m, rfl⟩ : ∃ k, m = k + 1 := ⟨m - 1, by omega⟩
    rw [f_ref09_Like_l16, if_neg (by simp; omega), show i = d.Dirty.length by omega]
  | succ k ih =>
    intro i m hi hm
    obtain ⟨m, rfl⟩ : ∃ k, m = k + 1 := ⟨m - 1, by omega⟩
    rw [f_ref09_Like_l16, if_pos (by simp; omega), ix_nat, List.getElem?_eq_getElem (by omega), Option.bind_some, Option.bind_some, if_neg (by simp), w_i64 (by omega) (by omega), show ((i : Int) + 1) = ((i + 1 : Nat) : Int) by omega]
    exact ih (i + 1) m (by omega) (by omega)
theorem like_self (d : api_Disk) (h1 : d.Sectors.length < 9000000000000000000) (h2 : d.Dirty.length < 9000000000000000000) : f_ref09_Like d d = some true := by
  unfold f_ref09_Like
  have q := like9 d h1 d.Sectors.length 0 ((((d.Sectors.length : Int) : Int) - 0).toNat + 1) (by omega) (by omega)
  have q2 := like16 d h2 d.Dirty.length 0 ((((d.Dirty.length : Int) : Int) - 0).toNat + 1) (by omega) (by omega)
  rw [show ((0 : Nat) : Int) = 0 from rfl] at q q2
  rw [if_neg (by simp), q, Option.bind_some]
  dsimp only
  rw [q2]; rfl
def fmtB (n : Int) : Bool := match f_ledger_Format n with
  | some t4 => t4.2 == 0 && t4.1.Gen == 1 && t4.1.Used == 0 && (t4.1.Entries.length : Int) == 0 && (match ix t4.1.Disk.Sectors 0, f_ref10_Head 1 0 with | some x, some y => x == y | _, _ => false) && (match f_ledger_Right t4.1 with | some b => b | none => false)
  | none => false
theorem fmt_all : ((List.range 61).all fun k => fmtB (4 + (k : Int))) = true := by kernel_rfl
theorem alive10 : f_law10_alive = some true := by kernel_rfl
end Go.Proofs.Ytjhelpeglgigbaa.V.M
end

section
/- Ledger: the law LedgerOpens. -/
namespace Go.Proofs.Ytjhelpeglgigbaa.V.M
set_option linter.unusedVariables false
set_option linter.unusedSimpArgs false
open Go Go.RowKit
theorem entG_len : ∀ (m : Nat) (s : Str) (out l : List Str), entG m s out = some l → l.length ≤ out.length + s.length := by
  intro m
  induction m with
  | zero => intro s out l h; cases h
  | succ m ih =>
    intro s out l h
    rw [entG] at h
    split at h
    · cases h; omega
    · split at h
      · cases h
      · split at h
        · cases h
        · have := ih _ _ _ h
          simp only [List.length_append, List.length_singleton, List.length_drop] at this
          omega
theorem openS_cases (d : api_Disk) : (openS d).2 = 0 ∧ (openS d).1.Disk = d ∧ (openS d).1.Entries.length ≤ 10000 ∨ (openS d).2 ≠ 0 ∧ (openS d).1 = zeroL := by
  unfold openS
  by_cases c : ((!okB d) || (decide ((d.Dirty.length : Int) > 0))) = true
  · rw [if_pos c]; exact .inr ⟨(by decide : (1 : Int) ≠ 0), rfl⟩
  · rw [if_neg c]
    have hok : OkD d := okB_ok (by cases h : okB d <;> simp [h] at c ⊢)
    have hl := hf_le hok
    have hr := roomS_len hok (pick_le d).1
    cases e : entS ((roomS d (pickS d).1).take (pickS d).2.2) with
    | none => exact .inr ⟨(by decide : (14 : Int) ≠ 0), rfl⟩
    | some l =>
      dsimp only
      by_cases a : (pickS d).2.1 = 0
      · rw [if_pos a]; exact .inr ⟨(by decide : (14 : Int) ≠ 0), rfl⟩
      · rw [if_neg a]
        have := entG_len _ _ _ _ e
        rw [List.length_take, List.length_nil] at this
        exact .inl ⟨rfl, rfl, by dsimp only; omega⟩
def rrB (o : api_Ledger × Int) (l : api_Ledger) : Bool := ((((o.2 == 0) && (o.1.Half == l.Half)) && (o.1.Gen == l.Gen)) && (o.1.Used == l.Used)) && decide (o.1.Entries = l.Entries)
theorem ent_le (d : api_Disk) : (openS d).1.Entries.length < 9000000000000000000 := by
  rcases openS_cases d with ⟨_, _, h⟩ | ⟨_, h⟩
  · omega
  · rw [h]; exact (by decide : ([] : List Str).length < 9000000000000000000)
theorem lright_ok (l : api_Ledger) (h1 : l.Disk.Sectors.length < 4611686018427387904) (h2 : l.Disk.Dirty.length < 4611686018427387904) : f_ledger_Right l = some (rrB (openS l.Disk) l) := by
  unfold f_ledger_Right rrB
  rw [open_ok _ h1 h2, Option.bind_some, equal_ok _ _ (ent_le _)]
  generalize (((((openS l.Disk).2 == 0) && ((openS l.Disk).1.Half == l.Half)) && ((openS l.Disk).1.Gen == l.Gen)) && ((openS l.Disk).1.Used == l.Used)) = a
  cases a <;> simp [gx]
theorem llike_ok (a b : api_Ledger) (hd : a.Disk = b.Disk) (h1 : a.Disk.Sectors.length < 4611686018427387904) (h2 : a.Disk.Dirty.length < 4611686018427387904) (h3 : a.Entries.length < 9000000000000000000) :
    f_ref10_Like a b = some ((((a.Half == b.Half) && (a.Gen == b.Gen)) && (a.Used == b.Used)) && decide (a.Entries = b.Entries)) := by
  unfold f_ref10_Like
  rw [← hd, like_self _ (by omega) (by omega), Option.bind_some, same_ok _ _ h3, Bool.true_and]
  generalize (((a.Half == b.Half) && (a.Gen == b.Gen)) && (a.Used == b.Used)) = x
  cases x <;> simp [gx]
theorem few10_ok (d : api_Disk) : f_law10_few d = some (api_Disk.mk (d.Sectors.take 66) (d.Dirty.take 3)) := by
  unfold f_law10_few
  rw [gd_t _ (cut_gdI d.Sectors 66 (by decide)), gd_t _ (cut_gdI d.Dirty 3 (by decide)), show cut d.Sectors 0 (if 66 < (d.Sectors.length : Int) then 66 else (d.Sectors.length : Int)) = d.Sectors.take 66 from cut_take d.Sectors 66, show cut d.Dirty 0 (if 3 < (d.Dirty.length : Int) then 3 else (d.Dirty.length : Int)) = d.Dirty.take 3 from cut_take d.Dirty 3]
end Go.Proofs.Ytjhelpeglgigbaa.V.M
end

section
/- Ledger: texts that are added; what is written. -/
namespace Go.Proofs.Ytjhelpeglgigbaa.V.M
set_option linter.unusedVariables false
set_option linter.unusedSimpArgs false
open Go Go.RowKit
theorem texts7_ok (l t : List Str) (ht : t.length ≤ 66) (he : ([] : List Str) ++ (cut l 0 (if 66 < (l.length : Int) then 66 else (l.length : Int))) = t) (suf : List Str) : ∀ (pre : List Str) (m : Nat), pre.length + suf.length = t.length → suf.length < m →
    f_law10_texts_l7 l m (pre.length : Int) (pre ++ suf) = some ((t.length : Int), pre ++ suf.map (·.take 4100)) := by
  induction suf with
  | nil =>
    intro pre m hl hm
    obtain ⟨m, rfl⟩ : ∃ k, m = k + 1 := ⟨m - 1, by omega⟩
    simp only [List.length_nil] at hl
    rw [f_law10_texts_l7, he, if_neg (by simp; omega), List.map_nil, show t.length = pre.length by omega]
  | cons x r ih =>
    intro pre m hl hm
    obtain ⟨m, rfl⟩ : ∃ k, m = k + 1 := ⟨m - 1, by omega⟩
    simp only [List.length_cons] at hl hm
    rw [f_law10_texts_l7, he, if_pos (by simp; omega), ix_nat, List.getElem?_append_right (Nat.le_refl _), Nat.sub_self, List.getElem?_cons_zero, Option.bind_some, Option.bind_some, gd_t _ (cut_gdI x 4100 (by decide)), show cut x 0 (if 4100 < (x.length : Int) then 4100 else (x.length : Int)) = x.take 4100 from cut_take x 4100, w_i64 (by omega) (by omega), Int.toNat_natCast, List.set_append_right _ _ (Nat.le_refl _), Nat.sub_self, List.set_cons_zero]
    have q := ih (pre ++ [x.take 4100]) m (by simp; omega) (by omega)
    rw [List.length_append, List.length_singleton] at q
    rw [show ((pre.length : Int) + 1) = ((pre.length + 1 : Nat) : Int) by omega]
    rw [show pre ++ x.take 4100 :: r = pre ++ [x.take 4100] ++ r by simp, q]; simp
theorem texts_ok (l : List Str) : f_law10_texts l = some (fewL l) := by
  unfold f_law10_texts
  have e : ([] : List Str) ++ (cut l 0 (if 66 < (l.length : Int) then 66 else (l.length : Int))) = l.take 66 := cut_take l 66
  rw [gd_t _ (cut_gdI l 66 (by decide)), show cut l 0 (if 66 < (l.length : Int) then 66 else (l.length : Int)) = l.take 66 from cut_take l 66, gd_t _ (by rw [List.length_take]; omega), List.nil_append]
  have q := texts7_ok l (l.take 66) (by rw [List.length_take]; omega) e (l.take 66) [] ((((l.take 66).length : Int) - 0).toNat + 1) (by simp) (by omega)
  rw [List.nil_append] at q
  rw [show ((([] : List Str).length : Nat) : Int) = 0 from rfl] at q
  rw [q]; rfl
end Go.Proofs.Ytjhelpeglgigbaa.V.M
end

section
/- Disks: what Save, Flush and Crash make of one. -/
namespace Go.Proofs.Ytjhelpeglgigbaa.V.M
set_option linter.unusedVariables false
set_option linter.unusedSimpArgs false
open Go Go.RowKit
/-- A write that may be, on so many sectors. -/
structure GoodW (n : Nat) (w : api_Write) : Prop where
  lo : 0 ≤ w.At
  hi : w.At < (n : Int)
  len : w.Data.length = 128
theorem badW_no {n : Nat} {w : api_Write} (h : GoodW n w) : badW (n : Int) w = false := by
  have := h.lo; have := h.hi; have := h.len
  unfold badW; simp; omega
theorem any_badW {n : Nat} {l : List api_Write} (h : ∀ w ∈ l, GoodW n w) : l.any (badW (n : Int)) = false := by
  rw [List.any_eq_false]; intro w hw; rw [badW_no (h w hw)]; decide
theorem badS_no {s : Str} (h : s.length = 128) : badS s = false := by unfold badS; simp; omega
theorem okB_true {d : api_Disk} (h : OkD d) (hw : ∀ w ∈ d.Dirty, GoodW d.Sectors.length w) : okB d = true := by
  have := h.lo; have := h.hi; have := h.dirty
  unfold okB
  rw [any_badW hw, show d.Sectors.any badS = false by rw [List.any_eq_false]; intro s hs; rw [badS_no (h.sect s hs)]; decide]
  simp; omega
theorem save_ok (d : api_Disk) (h : OkD d) (hw : ∀ w ∈ d.Dirty, GoodW d.Sectors.length w) (l : List api_Write) (hl : ∀ w ∈ l, GoodW d.Sectors.length w) (hn : d.Dirty.length + l.length ≤ 200) :
    f_disk_Save d l = some (api_Disk.mk d.Sectors (d.Dirty ++ l), 0) := by
  have := h.hi; have := h.dirty
  unfold f_disk_Save f_slices_Clip_api_Write_api_Write
  rw [right_ok d (by omega) (by omega), okB_true h hw, Option.bind_some, show gx (!(!true)) (f_disk_well l (d.Sectors.length : Int)) default = f_disk_well l (d.Sectors.length : Int) from rfl, well_ok _ _ (by omega), any_badW hl, Option.bind_some, if_neg (by decide), w_i64 (by omega) (by omega), if_neg (by simp; omega), gd_t _ (by omega), cut_zero, List.take_length, Option.bind_some, gd_t _ (by omega)]
/-- What becomes of a sector by a fate. -/
def mixS (c : Int) (new old : Str) : Str := if c = 2 then new.take 64 ++ old.drop 64 else if c = 1 then new else old
theorem mixS_len {c : Int} {a b : Str} (ha : a.length = 128) (hb : b.length = 128) : (mixS c a b).length = 128 := by
  unfold mixS; split
  · simp; omega
  · split <;> assumption
def endS (f : Nat → Int) : Nat → List api_Write → List Str → List Str
  | _, [], l => l
  | i, w :: r, l => endS f (i + 1) r (l.set w.At.toNat (mixS (f i) w.Data (l.getD w.At.toNat [])))
theorem endS_len (f : Nat → Int) : ∀ (r : List api_Write) (i : Nat) (l : List Str), (endS f i r l).length = l.length
  | [], _, _ => rfl
  | w :: r, i, l => by rw [endS, endS_len f r, List.length_set]
theorem set_sect {l : List Str} (h : ∀ s ∈ l, s.length = 128) (i : Nat) {x : Str} (hx : x.length = 128) : ∀ s ∈ l.set i x, s.length = 128 := by
  intro s hs
  rcases List.mem_or_eq_of_mem_set hs with h1 | rfl
  · exact h s h1
  · exact hx
theorem getD_sect {l : List Str} (h : ∀ s ∈ l, s.length = 128) {i : Nat} (hi : i < l.length) : (l.getD i []).length = 128 := by
  rw [List.getD_eq_getElem?_getD, List.getElem?_eq_getElem hi]; exact h _ (List.getElem_mem _)
theorem endS_sect (f : Nat → Int) : ∀ (r : List api_Write) (i : Nat) (l : List Str), (∀ s ∈ l, s.length = 128) → (∀ w ∈ r, GoodW l.length w) → ∀ s ∈ endS f i r l, s.length = 128
  | [], _, _, h, _ => h
  | w :: r, i, l, h, hw => by
    have g := hw w (List.mem_cons_self ..)
    have := g.lo; have := g.hi
    rw [endS]
    refine endS_sect f r _ _ (set_sect h _ (mixS_len g.len (getD_sect h (by omega)))) ?_
    rw [List.length_set]
    exact fun v hv => hw v (List.mem_cons_of_mem _ hv)
theorem ends12_ok (d : api_Disk) (fate : Int → Option Int) (f : Nat → Int) (hf : ∀ i : Nat, i < d.Dirty.length → fate (i : Int) = some (f i)) (hb : d.Dirty.length ≤ 200) (suf : List api_Write) : ∀ (pre : List api_Write) (m : Nat) (l : List Str), d.Dirty = pre ++ suf → suf.length < m → (∀ s ∈ l, s.length = 128) → (∀ w ∈ suf, GoodW l.length w) →
    f_disk_ends_l12 d fate m (pre.length : Int) l = some ((d.Dirty.length : Int), endS f pre.length suf l) := by
  induction suf with
  | nil =>
    intro pre m l h hm _ _
    obtain ⟨m, rfl⟩ : ∃ k, m = k + 1 := ⟨m - 1, by omega⟩
    rw [List.append_nil] at h
    rw [f_disk_ends_l12, h, if_neg (by simp)]; rfl
  | cons w r ih =>
    intro pre m l h hm hs hw
    obtain ⟨m, rfl⟩ : ∃ k, m = k + 1 := ⟨m - 1, by omega⟩
    have hl : d.Dirty.length = pre.length + 1 + r.length := by rw [h]; simp; omega
    simp only [List.length_cons] at hm
    have g := hw w (List.mem_cons_self ..)
    have g1 := g.lo; have g2 := g.hi; have g3 := g.len
    have e1 : ix d.Dirty (pre.length : Int) = some w := by rw [h, ix_nat]; simp
    have ex : ix l w.At = some (l.getD w.At.toNat []) := by
      have := ix_lt l [] w.At.toNat (by omega)
      rwa [show ((w.At.toNat : Nat) : Int) = w.At by omega] at this
    have lx := getD_sect hs (i := w.At.toNat) (by omega)
    have q := fun x : Str => fun hx : x.length = 128 => ih (pre ++ [w]) m (l.set w.At.toNat x) (by simp [h]) (by omega) (set_sect hs _ hx) (by rw [List.length_set]; exact fun v hv => hw v (List.mem_cons_of_mem _ hv))
    rw [List.length_append, List.length_singleton] at q
    have wi : IntKind.i64.wrap ((pre.length : Int) + 1) = ((pre.length + 1 : Nat) : Int) := by rw [w_i64 (by omega) (by omega)]; rfl
    rw [f_disk_ends_l12, if_pos (by simp; omega), e1, Option.bind_some, hf _ (by omega), Option.bind_some, endS, wi]
    generalize f pre.length = c
    by_cases c2 : c = 2
    · subst c2
      rw [if_pos (by decide), ex, Option.bind_some, gd_t _ (by omega)]
      have c64 : cut (l.getD w.At.toNat []) 64 ((l.getD w.At.toNat []).length : Int) = (l.getD w.At.toNat []).drop 64 := cut_all _ 64
      have l64 : ((l.getD w.At.toNat []).drop 64).length = 64 := by rw [List.length_drop]; omega
      rw [c64, l64, show IntKind.i64.wrap (128 - ((64 : Nat) : Int)) = 64 by decide, gd_t _ (by omega), show cut w.Data 0 64 = w.Data.take 64 from cut_zero _ 64, gd_t _ (by rw [List.length_take]; omega), Option.bind_some]
      have e : mixS 2 w.Data (l.getD w.At.toNat []) = w.Data.take 64 ++ (l.getD w.At.toNat []).drop 64 := by unfold mixS; rw [if_pos rfl]
      rw [← e]
      exact q _ (mixS_len g3 lx)
    · rw [if_neg (by simpa using c2)]
      by_cases c1 : c = 1
      · subst c1
        rw [if_pos (by decide), show IntKind.i64.wrap (128 - 0) = 128 by decide, gd_t _ (by omega), show cut w.Data 0 128 = w.Data from (cut_zero _ 128).trans (List.take_of_length_le (by omega)), gd_t _ (by omega), ex, Option.bind_some]
        have e : mixS 1 w.Data (l.getD w.At.toNat []) = w.Data := by unfold mixS; rw [if_neg (by decide), if_pos rfl]
        rw [e]
        exact q _ g3
      · rw [if_neg (by simpa using c1)]
        have e : mixS c w.Data (l.getD w.At.toNat []) = l.getD w.At.toNat [] := by unfold mixS; rw [if_neg c2, if_neg c1]
        have e2 : l.set w.At.toNat (l.getD w.At.toNat []) = l := by
          have hh : l.getD w.At.toNat [] = l[w.At.toNat]'(by omega) := by rw [List.getD_eq_getElem?_getD, List.getElem?_eq_getElem (by omega)]; rfl
          rw [hh]; exact List.set_getElem_self (by omega)
        rw [e]
        have := q (l.getD w.At.toNat []) lx
        rw [e2] at this ⊢
        exact this
theorem ends_ok (d : api_Disk) (h : OkD d) (hw : ∀ w ∈ d.Dirty, GoodW d.Sectors.length w) (fate : Int → Option Int) (f : Nat → Int) (hf : ∀ i : Nat, i < d.Dirty.length → fate (i : Int) = some (f i)) :
    f_disk_ends d fate = some (api_Disk.mk (endS f 0 d.Dirty d.Sectors) []) := by
  have := h.hi; have := h.dirty
  have q := ends12_ok d fate f hf h.dirty d.Dirty [] ((((d.Dirty.length : Int) : Int) - 0).toNat + 1) d.Sectors rfl (by omega) h.sect hw
  rw [show (([] : List api_Write).length : Int) = 0 from rfl, show ([] : List api_Write).length = 0 from rfl] at q
  unfold f_disk_ends f_slices_Clone_string_string
  rw [gd_t _ (by omega), Option.bind_some, q, Option.bind_some]
theorem flush_ok (d : api_Disk) (h : OkD d) (hw : ∀ w ∈ d.Dirty, GoodW d.Sectors.length w) : f_disk_Flush d = some (api_Disk.mk (endS (fun _ => 1) 0 d.Dirty d.Sectors) [], 0) := by
  have := h.hi; have := h.dirty
  unfold f_disk_Flush
  rw [right_ok d (by omega) (by omega), okB_true h hw, Option.bind_some, if_neg (by decide), ends_ok d h hw _ (fun _ => 1) (fun i _ => rfl)]; rfl
/-- Sectors behind writes to places that follow one another. -/
theorem endS_range (f : Nat → Int) (a : Nat) (g : Nat → Str) : ∀ (n k0 off : Nat) (l : List Str), a + k0 + n ≤ l.length → ∀ i : Nat,
    (endS f off ((List.range' k0 n).map fun k => api_Write.mk ((a + k : Nat) : Int) (g k)) l)[i]? = if a + k0 ≤ i ∧ i < a + k0 + n then some (mixS (f (off + (i - a - k0))) (g (i - a)) (l.getD i [])) else l[i]?
  | 0, k0, off, l, hl, i => by rw [if_neg (by omega)]; rfl
  | n + 1, k0, off, l, hl, i => by
    rw [List.range'_succ, List.map_cons, endS]
    dsimp only
    rw [Int.toNat_natCast, endS_range f a g n (k0 + 1) (off + 1) _ (by rw [List.length_set]; omega) i]
    by_cases c : i = a + k0
    · subst c
      rw [if_neg (by omega), if_pos (by omega), List.getElem?_set_self (by omega), show off + (a + k0 - a - k0) = off by omega, show a + k0 - a = k0 by omega]
    · by_cases c2 : a + (k0 + 1) ≤ i ∧ i < a + (k0 + 1) + n
      · rw [if_pos c2, if_pos (by omega), show off + 1 + (i - a - (k0 + 1)) = off + (i - a - k0) by omega, List.getD_eq_getElem?_getD, List.getElem?_set_ne (by omega), ← List.getD_eq_getElem?_getD]
      · rw [if_neg c2, if_neg (by omega), List.getElem?_set_ne (by omega)]
end Go.Proofs.Ytjhelpeglgigbaa.V.M
end

section
/- Ledger: what is laid in a half, and what its room holds then. -/
namespace Go.Proofs.Ytjhelpeglgigbaa.V.M
set_option linter.unusedVariables false
set_option linter.unusedSimpArgs false
open Go Go.RowKit
def thenS (R : Str) (used : Nat) (s : Str) : Str := R.take used ++ s ++ List.replicate (R.length - used - s.length) 0
def chunkS (t : Str) (k : Nat) : Str := (t.drop (128 * k)).take 128
/-- The sectors of a room that are written: from which, how many. -/
def outFrom (used : Nat) : Nat := used / 128
def outNum (used len : Nat) : Nat := (used + len + 127) / 128 - used / 128
def outW (at_ used len : Nat) (t : Str) : List api_Write := (List.range' (outFrom used) (outNum used len)).map fun k => api_Write.mk ((at_ + 1 + k : Nat) : Int) (chunkS t k)
theorem thenS_len {R s : Str} {used : Nat} (h : used + s.length ≤ R.length) : (thenS R used s).length = R.length := by
  unfold thenS; rw [List.length_append, List.length_append, List.length_take, List.length_replicate]; omega
theorem lay8_ok (d : api_Disk) (gen : Int) (used at_ : Nat) (R s t2 : Str) (hR : R.length ≤ 100000) (hu : used + s.length ≤ R.length) (ha : at_ ≤ 1000) (hm8 : R.length % 128 = 0) (t : Str) (ht : ((cut R 0 (used : Int)) ++ s) ++ t2 = t) (htl : t.length = R.length) (n : Nat) : ∀ (k m : Nat) (out : List api_Write), k + n = (used + s.length + 127) / 128 → n < m → out.length + n ≤ 10000 →
    ∃ z, f_ledger_lay_l8 d gen (used : Int) s ((at_ : Int), R) t2 m (k : Int) out = some (z, out ++ (List.range' k n).map fun k => api_Write.mk ((at_ + 1 + k : Nat) : Int) (chunkS t k)) := by
  induction n with
  | zero =>
    intro k m out hk hm ho
    obtain ⟨m, rfl⟩ : ∃ k, m = k + 1 := ⟨m - 1, by omega⟩
    rw [f_ledger_lay_l8, w_i64 (n := (k : Int) * 128) (by omega) (by omega), w_i64 (n := (used : Int) + (s.length : Int)) (by omega) (by omega), if_neg (by simp; omega)]
    exact ⟨(k : Int), by simp⟩
  | succ n ih =>
    intro k m out hk hm ho
    obtain ⟨m, rfl⟩ : ∃ k, m = k + 1 := ⟨m - 1, by omega⟩
    have e1 : IntKind.i64.wrap ((k : Int) + 1) = ((k + 1 : Nat) : Int) := w_s (by omega)
    have e2 : IntKind.i64.wrap (((k + 1 : Nat) : Int) * 128) = ((128 * k + 128 : Nat) : Int) := by rw [w_i64 (by omega) (by omega)]; omega
    have e3 : IntKind.i64.wrap ((k : Int) * 128) = ((128 * k : Nat) : Int) := by rw [w_i64 (by omega) (by omega)]; omega
    have e4 : IntKind.i64.wrap ((at_ : Int) + 1) = ((at_ + 1 : Nat) : Int) := w_s (by omega)
    have e5 : IntKind.i64.wrap (((at_ + 1 : Nat) : Int) + (k : Int)) = ((at_ + 1 + k : Nat) : Int) := by rw [w_i64 (by omega) (by omega)]; omega
    rw [f_ledger_lay_l8, e3, w_i64 (n := (used : Int) + (s.length : Int)) (by omega) (by omega), if_pos (by simp; omega), e1, e2]
    dsimp only
    rw [ht, gd_t _ (by omega), gd_t _ (by omega), e4, e5, cut_mid t (128 * k) 128]
    obtain ⟨z, q⟩ := ih (k + 1) m (out ++ [api_Write.mk ((at_ + 1 + k : Nat) : Int) (chunkS t k)]) (by omega) (by omega) (by simp; omega)
    refine ⟨z, q.trans ?_⟩
    rw [List.append_assoc, List.range'_succ, List.map_cons]; rfl
/-- What is laid. -/
def layS (d : api_Disk) (half gen used : Nat) (s : Str) : List (List api_Write) :=
  [if s = [] then [] else outW (half * hf d) used s.length (thenS (roomS d half) used s), [api_Write.mk ((half * hf d : Nat) : Int) (headS gen (used + s.length))]]
theorem lay_ok (d : api_Disk) (h : OkD d) (half : Nat) (hh : half ≤ 1) (gen used : Nat) (hg : gen < 281474976710656) (s : Str) (hu : used + s.length ≤ 128 * (hf d - 1)) :
    f_ledger_lay d (half : Int) (gen : Int) (used : Int) s = some (layS d half gen used s) := by
  have hl := hf_le h
  have hr := roomS_len h hh
  have hm : half * hf d ≤ hf d := by rcases Nat.le_one_iff_eq_zero_or_eq_one.mp hh with rfl | rfl <;> omega
  unfold f_ledger_lay
  rw [room_ok d h half hh, Option.bind_some]
  dsimp only
  generalize hR : roomS d half = R at hr
  have lt : (R.take used).length = used := by rw [List.length_take]; omega
  rw [gd_t _ (by omega), cut_zero, gd_t _ (by omega), w_i64 (n := (R.length : Int) - (used : Int)) (by omega) (by omega), w_i64 (n := (R.length : Int) - (used : Int) - (s.length : Int)) (by omega) (by omega)]
  have er : f_strings_Repeat ([0] : Str) ((R.length : Int) - (used : Int) - (s.length : Int)) = some (List.replicate (R.length - used - s.length) 0) := by
    unfold f_strings_Repeat
    rw [show ((R.length : Int) - (used : Int) - (s.length : Int)).toNat = R.length - used - s.length by omega, gd_t _ ⟨by omega, by omega, by simp; omega⟩]
    have := Lib.repeatL_replicate (0 : UInt8) 1 (R.length - used - s.length)
    rw [Nat.mul_one] at this
    exact congrArg some this
  have wa : IntKind.i64.wrap ((used : Int) + (s.length : Int)) = ((used + s.length : Nat) : Int) := by rw [w_i64 (by omega) (by omega)]; omega
  have wt : IntKind.i64.wrap ((used : Int).tdiv 128) = ((used / 128 : Nat) : Int) := by rw [Int.tdiv_eq_ediv_of_nonneg (by omega), w_i64 (by omega) (by omega)]; omega
  have wm : IntKind.i64.wrap (((used / 128 : Nat) : Int) * 128) = ((used / 128 * 128 : Nat) : Int) := by rw [w_i64 (by omega) (by omega)]; omega
  rw [er, Option.bind_some, gd_t _ (by rw [List.length_append, List.length_replicate]; omega), wa, wt, wm]
  obtain ⟨z, q⟩ := lay8_ok d (gen : Int) used (half * hf d) R s (List.replicate (R.length - used - s.length) 0) (by omega) (by omega) (by omega) (by omega) (thenS R used s) (by rw [cut_zero]; rfl) (thenS_len (by omega)) (outNum used s.length) (used / 128)
    ((((used + s.length : Nat) : Int) - ((used / 128 * 128 : Nat) : Int)).toNat + 1) [] (by unfold outNum; omega) (by unfold outNum; omega) (by unfold outNum; simp; omega)
  rw [q, Option.bind_some, List.nil_append, head_ok gen (used + s.length) hg (by omega)]
  unfold layS
  rw [hR]
  by_cases c : s = []
  · rw [if_pos (by simp [c]), if_pos c]; rfl
  · rw [if_neg (by simp [c]), if_neg c]; rfl
end Go.Proofs.Ytjhelpeglgigbaa.V.M
end

section
/- Ledger: a disk behind what was laid: its sectors, its rooms, its heads. -/
namespace Go.Proofs.Ytjhelpeglgigbaa.V.M
set_option linter.unusedVariables false
set_option linter.unusedSimpArgs false
open Go Go.RowKit
theorem flat_get : ∀ (L : List Str), (∀ s ∈ L, s.length = 128) → ∀ i : Nat, L.flatten[i]? = (L[i / 128]?).bind fun s => s[i % 128]?
  | [], _, i => by simp
  | x :: L, h, i => by
    have hx := h x (List.mem_cons_self ..)
    rw [List.flatten_cons, List.getElem?_append]
    by_cases c : i < 128
    · rw [if_pos (by omega), show i / 128 = 0 by omega, show i % 128 = i by omega]; rfl
    · rw [if_neg (by omega), hx, flat_get L (fun s hs => h s (List.mem_cons_of_mem _ hs)) (i - 128), show (i - 128) / 128 = i / 128 - 1 by omega, show (i - 128) % 128 = i % 128 by omega, show i / 128 = (i / 128 - 1) + 1 by omega, List.getElem?_cons_succ, Nat.add_sub_cancel]
/-- A row of sectors of one size, and the halves in it. -/
theorem room_get (d : api_Disk) (h : OkD d) {half : Nat} (hh : half ≤ 1) (i : Nat) (hi : i < 128 * (hf d - 1)) : (roomS d half)[i]? = (d.Sectors[half * hf d + 1 + i / 128]?).bind fun s => s[i % 128]? := by
  unfold roomS
  rw [flat_get _ (fun s hs => h.sect s (roomL_mem s hs))]
  unfold roomL
  rw [List.getElem?_take_of_lt (by omega), List.getElem?_drop]
theorem chunk_get (t : Str) (k j : Nat) (hj : j < 128) : (chunkS t k)[j]? = t[128 * k + j]? := by
  unfold chunkS; rw [List.getElem?_take_of_lt hj, List.getElem?_drop]
theorem chunk_len {t : Str} {k : Nat} (h : 128 * k + 128 ≤ t.length) : (chunkS t k).length = 128 := by
  unfold chunkS; rw [List.length_take, List.length_drop]; omega
theorem then_get_lo {R s : Str} {used : Nat} (h : used + s.length ≤ R.length) (i : Nat) (hi : i < used) : (thenS R used s)[i]? = R[i]? := by
  unfold thenS
  rw [List.append_assoc, List.getElem?_append_left (by rw [List.length_take]; omega), List.getElem?_take_of_lt hi]
theorem then_take {R s : Str} {used : Nat} (h : used + s.length ≤ R.length) : (thenS R used s).take (used + s.length) = R.take used ++ s := by
  unfold thenS
  rw [List.take_left' (by rw [List.length_append, List.length_take]; omega)]
/-- What is written of a room, as fates have it: sector by sector. -/
def wrote (used len k : Nat) : Prop := used / 128 ≤ k ∧ 128 * k < used + len
instance (used len k : Nat) : Decidable (wrote used len k) := inferInstanceAs (Decidable (_ ∧ _))
def crashS (f : Nat → Int) (d : api_Disk) (half used : Nat) (s : Str) : List Str := endS f 0 (if s = [] then [] else outW (half * hf d) used s.length (thenS (roomS d half) used s)) d.Sectors
theorem outW_good (d : api_Disk) (h : OkD d) {half : Nat} (hh : half ≤ 1) {used : Nat} {s : Str} (hu : used + s.length ≤ 128 * (hf d - 1)) : ∀ w ∈ (if s = [] then [] else outW (half * hf d) used s.length (thenS (roomS d half) used s)), GoodW d.Sectors.length w := by
  have hl := hf_le h
  have hm : half * hf d ≤ hf d := by rcases Nat.le_one_iff_eq_zero_or_eq_one.mp hh with rfl | rfl <;> omega
  have hr := roomS_len h hh
  split
  · intro w hw; cases hw
  · intro w hw
    unfold outW at hw
    obtain ⟨k, hk, rfl⟩ := List.mem_map.mp hw
    have := List.mem_range'_1.mp hk
    unfold outFrom outNum at this
    exact ⟨by dsimp only; omega, by dsimp only; omega, chunk_len (by rw [thenS_len (by omega), hr]; omega)⟩
theorem outW_num (a used len : Nat) (t : Str) (h : used + len ≤ 4000) : (outW a used len t).length ≤ 32 := by
  unfold outW outNum; rw [List.length_map, List.length_range']; omega
theorem crash_len (f : Nat → Int) (d : api_Disk) (half used : Nat) (s : Str) : (crashS f d half used s).length = d.Sectors.length := endS_len ..
theorem crash_get (f : Nat → Int) (d : api_Disk) (h : OkD d) {half : Nat} (hh : half ≤ 1) {used : Nat} {s : Str} (hu : used + s.length ≤ 128 * (hf d - 1)) (hs : s ≠ []) (i : Nat) :
    (crashS f d half used s)[i]? = if half * hf d + 1 + used / 128 ≤ i ∧ wrote used s.length (i - (half * hf d + 1)) then some (mixS (f (i - (half * hf d + 1) - used / 128)) (chunkS (thenS (roomS d half) used s) (i - (half * hf d + 1))) (d.Sectors.getD i [])) else d.Sectors[i]? := by
  have hl := hf_le h
  have hm : half * hf d ≤ hf d := by rcases Nat.le_one_iff_eq_zero_or_eq_one.mp hh with rfl | rfl <;> omega
  unfold crashS
  rw [if_neg hs]
  have q := endS_range f (half * hf d + 1) (chunkS (thenS (roomS d half) used s)) (outNum used s.length) (outFrom used) 0 d.Sectors (by unfold outNum outFrom; omega) i
  refine q.trans ?_
  unfold outFrom outNum wrote
  have hp : 0 < s.length := List.length_pos_iff.mpr hs
  by_cases c : half * hf d + 1 + used / 128 ≤ i ∧ used / 128 ≤ i - (half * hf d + 1) ∧ 128 * (i - (half * hf d + 1)) < used + s.length
  · rw [if_pos c, if_pos (by omega), Nat.zero_add]
  · rw [if_neg c, if_neg (by omega)]
theorem crash_get0 (f : Nat → Int) (d : api_Disk) (half used i : Nat) : (crashS f d half used [])[i]? = d.Sectors[i]? := by unfold crashS; rw [if_pos rfl]; rfl
theorem crash_sect (f : Nat → Int) (d : api_Disk) (h : OkD d) {half : Nat} (hh : half ≤ 1) {used : Nat} {s : Str} (hu : used + s.length ≤ 128 * (hf d - 1)) : ∀ x ∈ crashS f d half used s, x.length = 128 :=
  endS_sect f _ _ _ h.sect (outW_good d h hh hu)
/-- Out of the room nothing is changed. -/
theorem crash_out (f : Nat → Int) (d : api_Disk) (h : OkD d) {half : Nat} (hh : half ≤ 1) {used : Nat} {s : Str} (hu : used + s.length ≤ 128 * (hf d - 1)) (i : Nat) (hi : i < half * hf d + 1 ∨ half * hf d + hf d ≤ i) : (crashS f d half used s)[i]? = d.Sectors[i]? := by
  have hl := hf_le h
  by_cases c : s = []
  · subst c; exact crash_get0 ..
  · rw [crash_get f d h hh hu c, if_neg (by unfold wrote; omega)]
/-- Within what was used nothing is changed, whatever the fates are. -/
theorem crash_used (f : Nat → Int) (d : api_Disk) (h : OkD d) {half : Nat} (hh : half ≤ 1) {used : Nat} {s : Str} (hu : used + s.length ≤ 128 * (hf d - 1)) (i : Nat) (hi : i < used) :
    ((crashS f d half used s)[half * hf d + 1 + i / 128]?).bind (fun x => x[i % 128]?) = (roomS d half)[i]? := by
  have hl := hf_le h
  have hr := roomS_len h hh
  have hm : half * hf d ≤ hf d := by rcases Nat.le_one_iff_eq_zero_or_eq_one.mp hh with rfl | rfl <;> omega
  have hget := room_get d h hh i (by omega)
  by_cases c : s = []
  · subst c; rw [crash_get0, ← hget]
  · rw [crash_get f d h hh hu c, show half * hf d + 1 + i / 128 - (half * hf d + 1) = i / 128 by omega]
    split
    · rename_i hw
      have hlt : half * hf d + 1 + i / 128 < d.Sectors.length := by omega
      have e : d.Sectors[half * hf d + 1 + i / 128]? = some (d.Sectors.getD (half * hf d + 1 + i / 128) []) := by rw [List.getD_eq_getElem?_getD, List.getElem?_eq_getElem hlt]; rfl
      rw [e, Option.bind_some] at hget
      have lo := getD_sect h.sect hlt
      generalize d.Sectors.getD (half * hf d + 1 + i / 128) [] = old at hget lo
      have hn : (chunkS (thenS (roomS d half) used s) (i / 128))[i % 128]? = old[i % 128]? := by
        rw [chunk_get _ _ _ (by omega), show 128 * (i / 128) + i % 128 = i by omega, then_get_lo (by omega) i hi, hget]
      have ln : (chunkS (thenS (roomS d half) used s) (i / 128)).length = 128 := chunk_len (by rw [thenS_len (by omega), hr]; omega)
      generalize chunkS (thenS (roomS d half) used s) (i / 128) = new at hn ln
      rw [Option.bind_some, hget]
      unfold mixS
      split
      · rw [List.getElem?_append]
        split
        · rename_i h1; rw [List.length_take] at h1; rw [List.getElem?_take_of_lt (by omega), hn]
        · rename_i h1; rw [List.length_take] at h1; rw [List.length_take, List.getElem?_drop, show 64 + (i % 128 - min 64 new.length) = i % 128 by omega]
      · split
        · exact hn
        · rfl
    · rw [← hget]
/-- All kept: what was laid stands behind what was used. -/
theorem kept_get (d : api_Disk) (h : OkD d) {half : Nat} (hh : half ≤ 1) {used : Nat} {s : Str} (hu : used + s.length ≤ 128 * (hf d - 1)) (i : Nat) (hi : i < used + s.length) :
    ((crashS (fun _ => 1) d half used s)[half * hf d + 1 + i / 128]?).bind (fun x => x[i % 128]?) = (thenS (roomS d half) used s)[i]? := by
  have hl := hf_le h
  have hr := roomS_len h hh
  by_cases c : i < used
  · rw [crash_used _ d h hh hu i c, then_get_lo (by omega) i c]
  · have hs : s ≠ [] := by intro e; subst e; simp at hi; omega
    rw [crash_get _ d h hh hu hs, show half * hf d + 1 + i / 128 - (half * hf d + 1) = i / 128 by omega, if_pos ⟨by omega, by unfold wrote; omega⟩, Option.bind_some, show mixS 1 (chunkS (thenS (roomS d half) used s) (i / 128)) (d.Sectors.getD (half * hf d + 1 + i / 128) []) = chunkS (thenS (roomS d half) used s) (i / 128) from rfl, chunk_get _ _ _ (by omega), show 128 * (i / 128) + i % 128 = i by omega]
/-- Zeros behind what is used: they stay such. -/
def clean (R : Str) (used : Nat) : Prop := ∀ i, used ≤ i → i < R.length → R[i]? = some 0
theorem then_get_hi {R s : Str} {used : Nat} (h : used + s.length ≤ R.length) (i : Nat) (hi : used + s.length ≤ i) (hl : i < R.length) : (thenS R used s)[i]? = some 0 := by
  unfold thenS
  rw [List.getElem?_append_right (by rw [List.length_append, List.length_take]; omega), List.getElem?_replicate, if_pos (by rw [List.length_append, List.length_take]; omega)]
theorem kept_clean (d : api_Disk) (h : OkD d) {half : Nat} (hh : half ≤ 1) {used : Nat} {s : Str} (hu : used + s.length ≤ 128 * (hf d - 1)) (hc : clean (roomS d half) used) (i : Nat) (hi : i < 128 * (hf d - 1)) :
    ((crashS (fun _ => 1) d half used s)[half * hf d + 1 + i / 128]?).bind (fun x => x[i % 128]?) = (thenS (roomS d half) used s)[i]? := by
  have hl := hf_le h
  have hr := roomS_len h hh
  by_cases c : i < used + s.length
  · exact kept_get d h hh hu i c
  · rw [then_get_hi (by omega) i (by omega) (by omega)]
    by_cases hs : s = []
    · subst hs
      rw [crash_get0, ← room_get d h hh i hi]
      simp at c
      exact hc i (by omega) (by omega)
    · rw [crash_get _ d h hh hu hs, show half * hf d + 1 + i / 128 - (half * hf d + 1) = i / 128 by omega]
      split
      · rw [Option.bind_some, show mixS 1 (chunkS (thenS (roomS d half) used s) (i / 128)) (d.Sectors.getD (half * hf d + 1 + i / 128) []) = chunkS (thenS (roomS d half) used s) (i / 128) from rfl, chunk_get _ _ _ (by omega), show 128 * (i / 128) + i % 128 = i by omega]
        exact then_get_hi (by omega) i (by omega) (by omega)
      · rw [← room_get d h hh i hi]
        exact hc i (by omega) (by omega)
end Go.Proofs.Ytjhelpeglgigbaa.V.M
end

section
/- Ledger: what is told of a disk; entries behind entries; a ledger that was added to, or renewed. -/
namespace Go.Proofs.Ytjhelpeglgigbaa.V.M
set_option linter.unusedVariables false
set_option linter.unusedSimpArgs false
open Go Go.RowKit
theorem genN_head (g u : Nat) (hg : g < 281474976710656) : genN (headS g u) = g := by
  unfold genN headS
  rw [List.append_assoc, List.append_assoc, show ([108, 101, 100] : Str) ++ (wideP g 6 ++ (wideP u 3 ++ List.replicate 116 0)) = [108, 101, 100] ++ (wideP g 6 ++ (wideP u 3 ++ List.replicate 116 0)) from rfl, show List.drop 3 (([108, 101, 100] : Str) ++ (wideP g 6 ++ (wideP u 3 ++ List.replicate 116 0))) = wideP g 6 ++ (wideP u 3 ++ List.replicate 116 0) from rfl, List.take_left' (wideP_len g 6), wholeN_wide]
  exact Nat.mod_eq_of_lt hg
theorem usedN_head (g u : Nat) (hu : u < 16777216) : usedN (headS g u) = u := by
  unfold usedN headS
  rw [List.append_assoc, List.drop_left' (by simp [wideP_len]), List.take_left' (wideP_len u 3), wholeN_wide]
  exact Nat.mod_eq_of_lt hu
theorem head_tail (g u : Nat) : (headS g u).drop 64 = List.replicate 64 0 := by
  unfold headS
  rw [List.drop_append, List.drop_of_length_le (by simp [wideP_len]), List.nil_append, List.drop_replicate]
  congr 1
/-- A disk of other sectors, as many. -/
abbrev mkD (L : List Str) : api_Disk := api_Disk.mk L []
theorem hf_mk {d : api_Disk} {L : List Str} (h : L.length = d.Sectors.length) : hf (mkD L) = hf d := by unfold hf; rw [show (mkD L).Sectors = L from rfl, h]
theorem okD_mk {d : api_Disk} (h : OkD d) {L : List Str} (hl : L.length = d.Sectors.length) (hs : ∀ x ∈ L, x.length = 128) : OkD (mkD L) :=
  ⟨by show 4 ≤ L.length; rw [hl]; exact h.lo, by show L.length ≤ 64; rw [hl]; exact h.hi, by show 0 ≤ 200; decide, hs⟩
theorem secS_get {d : api_Disk} (half : Nat) : secS d half = (d.Sectors[half * hf d]?).getD [] := by unfold secS; rw [List.getD_eq_getElem?_getD]
theorem sec_mk {d : api_Disk} {L : List Str} (hl : L.length = d.Sectors.length) {half : Nat} (hg : L[half * hf d]? = d.Sectors[half * hf d]?) : secS (mkD L) half = secS d half := by
  rw [secS_get, secS_get, hf_mk hl, show (mkD L).Sectors = L from rfl, hg]
theorem tells_mk {d : api_Disk} {L : List Str} (hl : L.length = d.Sectors.length) {half : Nat} (hg : L[half * hf d]? = d.Sectors[half * hf d]?) : tellsS (mkD L) half = tellsS d half := by
  unfold tellsS toldB; rw [sec_mk hl hg, hf_mk hl]
theorem tells_head {d : api_Disk} {half gen used : Nat} (hs : secS d half = headS gen used) (h1 : 1 ≤ gen) (h2 : gen ≤ 1099511627776) (h3 : used ≤ 128 * (hf d - 1)) (h4 : used < 16777216) : tellsS d half = (gen, used) := by
  unfold tellsS toldB
  rw [hs, genN_head _ _ (by omega), usedN_head _ _ h4]
  simp [h1, h2, h3]
theorem room_take {d : api_Disk} (h : OkD d) {L : List Str} (hl : L.length = d.Sectors.length) (hs : ∀ x ∈ L, x.length = 128) {half : Nat} (hh : half ≤ 1) (n : Nat) (t : Str) (hn : n ≤ 128 * (hf d - 1)) (ht : n ≤ t.length)
    (hg : ∀ i, i < n → (L[half * hf d + 1 + i / 128]?).bind (fun x => x[i % 128]?) = t[i]?) : (roomS (mkD L) half).take n = t.take n := by
  have hok := okD_mk h hl hs
  apply List.ext_getElem?
  intro i
  by_cases c : i < n
  · rw [List.getElem?_take_of_lt c, List.getElem?_take_of_lt c, room_get _ hok hh i (by rw [hf_mk hl]; omega), hf_mk hl]
    exact hg i c
  · rw [List.getElem?_take_eq_none (by omega), List.getElem?_take_eq_none (by omega)]
/-- A ledger that a disk has. -/
structure Led (d : api_Disk) (half gen used : Nat) (es : List Str) : Prop where
  ok : OkD d
  dirty : d.Dirty = []
  pick : pickS d = (half, gen, used)
  gen0 : gen ≠ 0
  ent : entS ((roomS d half).take used) = some es
theorem Led.half_le {d : api_Disk} {half gen used : Nat} {es : List Str} (h : Led d half gen used es) : half ≤ 1 := by have := (pick_le d).1; rw [h.pick] at this; exact this
theorem Led.used_le {d : api_Disk} {half gen used : Nat} {es : List Str} (h : Led d half gen used es) : used ≤ 128 * (hf d - 1) := by have := (pick_le d).2; rw [h.pick] at this; exact this
theorem Led.tells {d : api_Disk} {half gen used : Nat} {es : List Str} (h : Led d half gen used es) : tellsS d half = (gen, used) ∧ (half = 0 → (tellsS d 1).1 ≤ gen) ∧ (half = 1 → (tellsS d 0).1 < gen) := by
  have hp := h.pick
  unfold pickS at hp
  split at hp
  · rename_i c
    obtain ⟨h1, h2⟩ := Prod.mk.inj hp
    subst h1
    rw [h2] at c
    exact ⟨h2, by omega, fun _ => c⟩
  · rename_i c
    obtain ⟨h1, h2⟩ := Prod.mk.inj hp
    subst h1
    rw [h2] at c
    exact ⟨h2, fun _ => by dsimp only at c; omega, by omega⟩
theorem Led.gen_le {d : api_Disk} {half gen used : Nat} {es : List Str} (h : Led d half gen used es) : gen ≤ 1099511627776 := by
  have := (tells_le d half).2.1; rw [h.tells.1] at this; exact this
theorem pick_of {d : api_Disk} {half gen used : Nat} (hh : half ≤ 1) (h1 : tellsS d half = (gen, used)) (h2 : half = 0 → (tellsS d 1).1 ≤ gen) (h3 : half = 1 → (tellsS d 0).1 < gen) : pickS d = (half, gen, used) := by
  unfold pickS
  rcases Nat.le_one_iff_eq_zero_or_eq_one.mp hh with rfl | rfl
  · rw [if_neg (by rw [h1]; have := h2 rfl; dsimp only; omega), h1]
  · rw [if_pos (by rw [h1]; exact h3 rfl), h1]
theorem Led.openS {d : api_Disk} {half gen used : Nat} {es : List Str} (h : Led d half gen used es) : openS d = (api_Ledger.mk d half gen used es, 0) := by
  unfold M.openS
  rw [okB_true h.ok (by rw [h.dirty]; intro w hw; cases hw), h.dirty, if_neg (by decide), h.pick]
  dsimp only
  rw [h.ent]
  dsimp only
  rw [if_neg h.gen0]
theorem open_led {d : api_Disk} (h : (openS d).2 = 0) : ∃ half gen used es, Led d half gen used es := by
  unfold openS at h
  split at h
  · exact absurd h (by decide)
  · rename_i c
    have hb : okB d = true := by cases h : okB d <;> simp [h] at c ⊢
    have hd : d.Dirty = [] := by
      rw [hb] at c; simp at c; exact c
    cases e : entS ((roomS d (pickS d).1).take (pickS d).2.2) with
    | none => rw [e] at h; exact absurd (show (14 : Int) = 0 from h) (by decide)
    | some l =>
      rw [e] at h
      dsimp only at h
      split at h
      · exact absurd h (by decide)
      · rename_i g
        exact ⟨(pickS d).1, (pickS d).2.1, (pickS d).2.2, l, okB_ok hb, hd, rfl, g, e⟩
/-- Entries behind entries. -/
theorem ent_bind : ∀ (news : List Str), (∀ x ∈ news, x.length ≤ 4096) → ∀ (m : Nat) (out : List Str), (bindP news).length < m → entG m (bindP news) out = some (out ++ news)
  | [], _, m, out, hm => by
    obtain ⟨m, rfl⟩ : ∃ k, m = k + 1 := ⟨m - 1, by omega⟩
    rw [entG, if_pos (show bindP [] = ([] : Str) from rfl), List.append_nil]
  | x :: r, h, m, out, hm => by
    obtain ⟨m, rfl⟩ : ∃ k, m = k + 1 := ⟨m - 1, by omega⟩
    have hx := h x (List.mem_cons_self ..)
    have hl : (bindP (x :: r)).length = 2 + x.length + (bindP r).length := by rw [bindP_cons, List.length_append, List.length_append, two_len]; omega
    have ht : (bindP (x :: r)).take 2 = two x.length := by rw [bindP_cons]; exact List.take_left' rfl
    have hd : (bindP (x :: r)).drop 2 = x ++ bindP r := by rw [bindP_cons]; exact List.drop_left' rfl
    rw [entG, if_neg (by intro e; rw [e] at hl; simp at hl; omega), if_neg (by omega), ht, hd, wholeN_two _ (by omega), if_neg (by rw [List.length_append]; omega), List.drop_left' rfl, List.take_left' rfl, ent_bind r (fun y hy => h y (List.mem_cons_of_mem _ hy)) m _ (by omega), List.append_assoc]; rfl
theorem ent_app (b : Str) (news : List Str) (hb : ∀ (m : Nat) (out : List Str), b.length < m → entG m b out = some (out ++ news)) : ∀ (m : Nat) (a : Str) (out l : List Str), entG m a out = some l → ∀ M, a.length + b.length < M → entG M (a ++ b) out = some (l ++ news)
  | 0, _, _, _, h, _, _ => by cases h
  | m + 1, a, out, l, h, M, hM => by
    rw [entG] at h
    by_cases c : a = []
    · rw [if_pos c] at h
      obtain rfl := Option.some.inj h
      subst c
      rw [List.nil_append]
      exact hb M out (by simp at hM; omega)
    · rw [if_neg c] at h
      by_cases c1 : a.length < 2
      · rw [if_pos c1] at h; cases h
      · rw [if_neg c1] at h
        obtain ⟨M, rfl⟩ : ∃ k, M = k + 1 := ⟨M - 1, by omega⟩
        rw [entG, if_neg (by simp [c]), if_neg (by rw [List.length_append]; omega), List.take_append_of_le_length (by omega), List.drop_append_of_le_length (by omega)]
        generalize wholeN (a.take 2) = v at h ⊢
        split at h
        · cases h
        · rename_i c2
          have ld : (a.drop 2).length = a.length - 2 := List.length_drop
          rw [if_neg (by rw [List.length_append]; omega), List.take_append_of_le_length (by omega), List.drop_append_of_le_length (by omega)]
          exact ent_app b news hb m _ _ _ h M (by rw [List.length_drop, ld]; omega)
theorem ent_add {a : Str} {es news : List Str} (h : entS a = some es) (hn : ∀ x ∈ news, x.length ≤ 4096) : entS (a ++ bindP news) = some (es ++ news) := by
  unfold entS at h ⊢
  exact ent_app (bindP news) news (ent_bind news hn) _ a [] es h _ (by rw [List.length_append]; omega)
/-- A disk behind all that was laid. -/
def newD (d : api_Disk) (half gen used : Nat) (s : Str) : api_Disk := mkD ((crashS (fun _ => 1) d half used s).set (half * hf d) (headS gen (used + s.length)))
theorem newD_len (d : api_Disk) (half gen used : Nat) (s : Str) : (newD d half gen used s).Sectors.length = d.Sectors.length := by
  show (List.set _ _ _).length = _; rw [List.length_set, crash_len]
theorem newD_sect {d : api_Disk} (h : OkD d) {half : Nat} (hh : half ≤ 1) (gen : Nat) {used : Nat} {s : Str} (hu : used + s.length ≤ 128 * (hf d - 1)) : ∀ x ∈ (newD d half gen used s).Sectors, x.length = 128 :=
  set_sect (crash_sect _ d h hh hu) _ (headS_len _ _)
theorem newD_ok {d : api_Disk} (h : OkD d) {half : Nat} (hh : half ≤ 1) (gen : Nat) {used : Nat} {s : Str} (hu : used + s.length ≤ 128 * (hf d - 1)) : OkD (newD d half gen used s) :=
  okD_mk h (newD_len d half gen used s) (newD_sect h hh gen hu)
theorem half_mul_le {d : api_Disk} {half : Nat} (hh : half ≤ 1) : half * hf d ≤ hf d := by
  rcases Nat.le_one_iff_eq_zero_or_eq_one.mp hh with rfl | rfl <;> omega
theorem newD_head {d : api_Disk} (h : OkD d) {half : Nat} (hh : half ≤ 1) (gen used : Nat) (s : Str) : secS (newD d half gen used s) half = headS gen (used + s.length) := by
  have hl := hf_le h
  have hm := half_mul_le (d := d) hh
  rw [secS_get, show hf (newD d half gen used s) = hf d from hf_mk (newD_len ..)]
  show (List.set _ _ _)[_]?.getD [] = _
  rw [List.getElem?_set_self (by rw [crash_len]; omega)]; rfl
/-- In the other half, and of the other head, nothing is changed. -/
theorem newD_other {d : api_Disk} (h : OkD d) {half : Nat} (hh : half ≤ 1) (gen : Nat) {used : Nat} {s : Str} (hu : used + s.length ≤ 128 * (hf d - 1)) (i : Nat) (hi : i < half * hf d ∨ half * hf d + hf d ≤ i) : (newD d half gen used s).Sectors[i]? = d.Sectors[i]? := by
  have hl := hf_le h
  show (List.set _ _ _)[i]? = _
  rw [List.getElem?_set_ne (by omega), crash_out _ d h hh hu i (by omega)]
theorem newD_tells_other {d : api_Disk} (h : OkD d) {half : Nat} (hh : half ≤ 1) (gen : Nat) {used : Nat} {s : Str} (hu : used + s.length ≤ 128 * (hf d - 1)) : tellsS (newD d half gen used s) (1 - half) = tellsS d (1 - half) := by
  have hl := hf_le h
  refine tells_mk (newD_len ..) (newD_other h hh gen hu _ ?_)
  rcases Nat.le_one_iff_eq_zero_or_eq_one.mp hh with rfl | rfl <;> omega
theorem newD_room {d : api_Disk} (h : OkD d) {half : Nat} (hh : half ≤ 1) (gen : Nat) {used : Nat} {s : Str} (hu : used + s.length ≤ 128 * (hf d - 1)) : (roomS (newD d half gen used s) half).take (used + s.length) = (roomS d half).take used ++ s := by
  have hl := hf_le h
  have hr := roomS_len h hh
  rw [← then_take (by omega)]
  refine room_take h (newD_len d half gen used s) (newD_sect h hh gen hu) hh _ _ hu (by rw [thenS_len (by omega)]; omega) fun i hi => ?_
  rw [show (newD d half gen used s).Sectors = (crashS (fun _ => 1) d half used s).set (half * hf d) (headS gen (used + s.length)) from rfl, List.getElem?_set_ne (by omega)]
  exact kept_get d h hh hu i hi
theorem newD_room_clean {d : api_Disk} (h : OkD d) {half : Nat} (hh : half ≤ 1) (gen : Nat) {used : Nat} {s : Str} (hu : used + s.length ≤ 128 * (hf d - 1)) (hc : clean (roomS d half) used) : roomS (newD d half gen used s) half = thenS (roomS d half) used s := by
  have hl := hf_le h
  have hr := roomS_len h hh
  have hn : (roomS (newD d half gen used s) half).length = 128 * (hf d - 1) := by rw [roomS_len (newD_ok h hh gen hu) hh, show hf (newD d half gen used s) = hf d from hf_mk (newD_len ..)]
  have ht : (thenS (roomS d half) used s).length = 128 * (hf d - 1) := by rw [thenS_len (by omega), hr]
  have q := room_take h (newD_len d half gen used s) (newD_sect h hh gen hu) hh (128 * (hf d - 1)) (thenS (roomS d half) used s) (Nat.le_refl _) (by omega) fun i hi => by
    rw [show (newD d half gen used s).Sectors = (crashS (fun _ => 1) d half used s).set (half * hf d) (headS gen (used + s.length)) from rfl, List.getElem?_set_ne (by omega)]
    exact kept_clean d h hh hu hc i hi
  rw [List.take_of_length_le (by rw [show mkD (newD d half gen used s).Sectors = newD d half gen used s from rfl, hn]; omega), List.take_of_length_le (by omega)] at q
  exact q
theorem Led.add {d : api_Disk} {half gen used : Nat} {es : List Str} (h : Led d half gen used es) {news : List Str} (hn : ∀ x ∈ news, x.length ≤ 4096) (hu : used + (bindP news).length ≤ 128 * (hf d - 1)) :
    Led (newD d half gen used (bindP news)) half gen (used + (bindP news).length) (es ++ news) := by
  have hl := hf_le h.ok
  have ht := h.tells
  have hg := h.gen_le
  have h0 := h.gen0
  have ho := newD_tells_other h.ok h.half_le gen hu
  refine ⟨newD_ok h.ok h.half_le gen hu, rfl, pick_of h.half_le (tells_head (newD_head h.ok h.half_le _ _ _) (by omega) hg (by rw [show hf (newD d half gen used (bindP news)) = hf d from hf_mk (newD_len ..)]; exact hu) (by omega)) ?_ ?_, h0, ?_⟩
  · rintro rfl; rw [ho]; exact ht.2.1 rfl
  · rintro rfl; rw [show (0 : Nat) = 1 - 1 from rfl, ho]; exact ht.2.2 rfl
  · rw [newD_room h.ok h.half_le gen hu]; exact ent_add h.ent hn
theorem Led.renew {d : api_Disk} {half gen used : Nat} {es : List Str} (h : Led d half gen used es) {news : List Str} (hn : ∀ x ∈ news, x.length ≤ 4096) (hg : gen + 1 ≤ 1099511627776) (hu : 0 + (bindP news).length ≤ 128 * (hf d - 1)) :
    Led (newD d (1 - half) (gen + 1) 0 (bindP news)) (1 - half) (gen + 1) (0 + (bindP news).length) news := by
  have hl := hf_le h.ok
  have ht := h.tells
  have h0 := h.gen0
  have hh : 1 - half ≤ 1 := by omega
  have hh1 := h.half_le
  have ho := newD_tells_other h.ok hh (gen + 1) hu
  refine ⟨newD_ok h.ok hh _ hu, rfl, pick_of hh (tells_head (newD_head h.ok hh _ _ _) (by omega) hg (by rw [show hf (newD d (1 - half) (gen + 1) 0 (bindP news)) = hf d from hf_mk (newD_len ..)]; exact hu) (by omega)) ?_ ?_, by omega, ?_⟩
  · intro e
    rw [e] at ho ⊢
    rw [show (1 : Nat) = 1 - 0 from rfl, ho, show (1 - 0 : Nat) = half by omega, ht.1]; dsimp only; omega
  · intro e
    rw [e] at ho ⊢
    rw [show (0 : Nat) = 1 - 1 from rfl, ho, show (1 - 1 : Nat) = half by omega, ht.1]; dsimp only; omega
  · rw [newD_room h.ok hh _ hu, List.take_zero, List.nil_append]
    have := ent_add (a := []) (es := []) (news := news) rfl hn
    rwa [List.nil_append, List.nil_append] at this
end Go.Proofs.Ytjhelpeglgigbaa.V.M
end

section
/- Ledger: what Steps, Add and Renew come to. -/
namespace Go.Proofs.Ytjhelpeglgigbaa.V.M
set_option linter.unusedVariables false
set_option linter.unusedSimpArgs false
open Go Go.RowKit
abbrev ledR (d : api_Disk) (half gen used : Nat) (es : List Str) : api_Ledger := api_Ledger.mk d (half : Int) (gen : Int) (used : Int) es
theorem right_led {d : api_Disk} {half gen used : Nat} {es : List Str} (h : Led d half gen used es) : f_ledger_Right (ledR d half gen used es) = some true := by
  have := h.ok.hi
  rw [lright_ok _ (by show d.Sectors.length < _; omega) (by show d.Dirty.length < _; rw [h.dirty]; decide), h.openS]
  simp [rrB]
/-- Where an Add, or a Renew, goes: which half, which generation, behind how much. -/
def goS (renew : Bool) (half gen used : Nat) : Nat × Nat × Nat := if renew then (1 - half, gen + 1, 0) else (half, gen, used)
def fullP (d : api_Disk) (g : Nat × Nat × Nat) (len : Nat) : Prop := 128 * (hf d - 1) < g.2.2 + len ∨ 1099511627776 < g.2.1
instance (d : api_Disk) (g : Nat × Nat × Nat) (len : Nat) : Decidable (fullP d g len) := inferInstanceAs (Decidable (_ ∨ _))
theorem go_le {d : api_Disk} {half gen used : Nat} {es : List Str} (h : Led d half gen used es) (renew : Bool) : (goS renew half gen used).1 ≤ 1 ∧ (goS renew half gen used).2.2 ≤ 128 * (hf d - 1) ∧ (goS renew half gen used).2.1 ≤ 1099511627777 := by
  have := h.half_le; have := h.used_le; have := h.gen_le
  unfold goS; split
  · exact ⟨by dsimp only; omega, by dsimp only; omega, by dsimp only; omega⟩
  · exact ⟨by dsimp only; omega, by dsimp only; omega, by dsimp only; omega⟩
theorem go_bind {d : api_Disk} {half gen used : Nat} {es : List Str} (h : Led d half gen used es) (renew : Bool) {α : Type} (k : Int × Int × Int → Option α) :
    (Option.bind (if renew then some ((IntKind.i64.wrap (1 - (half : Int))), (IntKind.i64.wrap ((gen : Int) + 1)), (0 : Int)) else some ((half : Int), (gen : Int), (used : Int))) k) = k (((goS renew half gen used).1 : Int), ((goS renew half gen used).2.1 : Int), ((goS renew half gen used).2.2 : Int)) := by
  have := h.half_le; have := h.used_le; have := h.gen_le
  cases renew with
  | true =>
    rw [if_pos rfl, Option.bind_some, w_i64 (n := 1 - (half : Int)) (by omega) (by omega), w_i64 (n := (gen : Int) + 1) (by omega) (by omega)]
    show k _ = k (((1 - half : Nat) : Int), ((gen + 1 : Nat) : Int), ((0 : Nat) : Int))
    congr 2; omega
  | false => rfl
theorem steps_go {d : api_Disk} {half gen used : Nat} {es : List Str} (h : Led d half gen used es) (renew : Bool) (news : List Str) (hn : news.length ≤ 66) :
    f_ledger_Steps (ledR d half gen used es) renew news = some (if ¬ mayP news then ([], 2) else if fullP d (goS renew half gen used) (bindP news).length then ([], 13) else (layS d (goS renew half gen used).1 (goS renew half gen used).2.1 (goS renew half gen used).2.2 (bindP news), 0)) := by
  have hl := hf_le h.ok
  have hg := go_le h renew
  unfold f_ledger_Steps
  rw [right_led h, Option.bind_some, if_neg (by decide), bind_ok _ hn, Option.bind_some]
  by_cases c : mayP news
  · rw [bindR_may c, if_neg (show ¬ (((0 : Int) != 0) = true) by decide), if_neg (show ¬ ¬ mayP news from fun h => h c)]
    dsimp only
    rw [go_bind h]
    have hb := bindP_le news c.2
    generalize goS renew half gen used = g at hg
    rw [room_ok d h.ok _ hg.1, Option.bind_some]
    dsimp only
    have hr := roomS_len h.ok hg.1
    rw [hr, w_i64 (by omega) (by omega)]
    by_cases f : fullP d g (bindP news).length
    · rw [if_pos f, if_pos (by unfold fullP at f; simp; omega)]
    · rw [if_neg f, if_neg (by unfold fullP at f; simp; omega), lay_ok d h.ok _ hg.1 _ _ (by omega) _ (by unfold fullP at f; omega)]; rfl
  · rw [bindR_not c, if_pos (by decide), if_pos c]
theorem save_flush (d : api_Disk) (h : OkD d) (hd : d.Dirty = []) (l : List api_Write) (hl : ∀ w ∈ l, GoodW d.Sectors.length w) (hn : l.length ≤ 200) :
    f_disk_Save (api_Disk.mk d.Sectors d.Dirty) l = some (api_Disk.mk d.Sectors l, 0) ∧ f_disk_Flush (api_Disk.mk d.Sectors l) = some (mkD (endS (fun _ => 1) 0 l d.Sectors), 0) := by
  have e := save_ok d h (by rw [hd]; intro w hw; cases hw) l hl (by rw [hd]; simpa using hn)
  rw [hd, List.nil_append] at e
  rw [hd]
  refine ⟨?_, flush_ok (api_Disk.mk d.Sectors l) ⟨h.lo, h.hi, hn, h.sect⟩ hl⟩
  obtain ⟨S, D⟩ := d
  subst hd
  exact e
theorem head_good (d : api_Disk) (h : OkD d) {half : Nat} (hh : half ≤ 1) (g u : Nat) : ∀ w ∈ [api_Write.mk ((half * hf d : Nat) : Int) (headS g u)], GoodW d.Sectors.length w := by
  have hl := hf_le h
  have hm := half_mul_le (d := d) hh
  intro w hw
  obtain rfl := List.mem_singleton.mp hw
  exact ⟨by dsimp only; omega, by dsimp only; omega, headS_len g u⟩
theorem done11_ok (d : api_Disk) (h : OkD d) (hd : d.Dirty = []) (half gen used : Nat) (hh : half ≤ 1) (s : Str) (hu : used + s.length ≤ 128 * (hf d - 1)) (e : Int) :
    f_ledger_done_l11 (layS d half gen used s, e) 3 0 d.Sectors d.Dirty = some (2, (newD d half gen used s).Sectors, []) := by
  have hl := hf_le h
  have q1 := save_flush d h hd (if s = [] then [] else outW (half * hf d) used s.length (thenS (roomS d half) used s)) (outW_good d h hh hu) (by split; decide; exact Nat.le_trans (outW_num _ _ _ _ (by omega)) (by decide))
  have h2 : OkD (mkD (crashS (fun _ => 1) d half used s)) := okD_mk h (crash_len ..) (crash_sect _ d h hh hu)
  have hf2 : hf (mkD (crashS (fun _ => 1) d half used s)) = hf d := hf_mk (crash_len ..)
  have q2 := save_flush (mkD (crashS (fun _ => 1) d half used s)) h2 rfl [api_Write.mk ((half * hf d : Nat) : Int) (headS gen (used + s.length))] (by have := head_good _ h2 hh gen (used + s.length); rwa [hf2] at this) (by simp)
  have w1 : IntKind.i64.wrap ((0 : Int) + 1) = 1 := by decide
  have w2 : IntKind.i64.wrap ((1 : Int) + 1) = 2 := by decide
  rw [f_ledger_done_l11, if_pos (by simp [layS]), show ix (layS d half gen used s, e).1 0 = some (if s = [] then [] else outW (half * hf d) used s.length (thenS (roomS d half) used s)) from rfl, Option.bind_some, q1.1, Option.bind_some]
  dsimp only
  rw [q1.2, Option.bind_some, w1, f_ledger_done_l11, if_pos (by simp [layS]), show ix (layS d half gen used s, e).1 1 = some [api_Write.mk ((half * hf d : Nat) : Int) (headS gen (used + s.length))] from rfl, Option.bind_some]
  have q21 := q2.1
  have q22 := q2.2
  dsimp only [mkD] at q21 q22 ⊢
  rw [show endS (fun _ => 1) 0 (if s = [] then [] else outW (half * hf d) used s.length (thenS (roomS d half) used s)) d.Sectors = crashS (fun _ => 1) d half used s from rfl, q21, Option.bind_some]
  dsimp only
  rw [q22, Option.bind_some, w2, f_ledger_done_l11, if_neg (by simp [layS])]
  rfl
/-- What an Add, or a Renew, comes to. -/
def doneS (d : api_Disk) (half gen used : Nat) (es : List Str) (renew : Bool) (news : List Str) : api_Ledger × Int :=
  if ¬ mayP news then (zeroL, 2) else if fullP d (goS renew half gen used) (bindP news).length then (zeroL, 13)
  else (ledR (newD d (goS renew half gen used).1 (goS renew half gen used).2.1 (goS renew half gen used).2.2 (bindP news)) (goS renew half gen used).1 (goS renew half gen used).2.1 ((goS renew half gen used).2.2 + (bindP news).length) (if renew then news else es ++ news), 0)
theorem Led.go {d : api_Disk} {half gen used : Nat} {es : List Str} (h : Led d half gen used es) (renew : Bool) {news : List Str} (hm : mayP news) (hf_ : ¬ fullP d (goS renew half gen used) (bindP news).length) :
    Led (newD d (goS renew half gen used).1 (goS renew half gen used).2.1 (goS renew half gen used).2.2 (bindP news)) (goS renew half gen used).1 (goS renew half gen used).2.1 ((goS renew half gen used).2.2 + (bindP news).length) (if renew then news else es ++ news) := by
  cases renew with
  | true =>
    have f2 : ¬ (128 * (hf d - 1) < 0 + (bindP news).length ∨ 1099511627776 < gen + 1) := hf_
    exact h.renew hm.2 (by omega) (by omega)
  | false =>
    have f2 : ¬ (128 * (hf d - 1) < used + (bindP news).length ∨ 1099511627776 < gen) := hf_
    exact h.add hm.2 (by omega)
theorem done_go {d : api_Disk} {half gen used : Nat} {es : List Str} (h : Led d half gen used es) (renew : Bool) (news : List Str) (hn : news.length ≤ 66) :
    f_ledger_done (ledR d half gen used es) renew news = some (doneS d half gen used es renew news) := by
  have hg := go_le h renew
  unfold f_ledger_done doneS
  rw [steps_go h renew news hn, Option.bind_some]
  by_cases c : mayP news
  · by_cases f : fullP d (goS renew half gen used) (bindP news).length
    · rw [if_neg (show ¬ ¬ mayP news from fun h => h c), if_neg (show ¬ ¬ mayP news from fun h => h c), if_pos f, if_pos f]; rfl
    · have hgo := h.go renew c f
      rw [if_neg (show ¬ ¬ mayP news from fun h => h c), if_neg (show ¬ ¬ mayP news from fun h => h c), if_neg f, if_neg f, if_neg (show ¬ (((0 : Int) != 0) = true) by decide)]
      have e := done11_ok d h.ok h.dirty (goS renew half gen used).1 (goS renew half gen used).2.1 (goS renew half gen used).2.2 hg.1 (bindP news) (by unfold fullP at f; omega) 0
      dsimp only
      rw [show ((((layS d (goS renew half gen used).1 (goS renew half gen used).2.1 (goS renew half gen used).2.2 (bindP news)).length : Int) : Int) - 0).toNat + 1 = 3 from rfl, e, Option.bind_some]
      dsimp only
      rw [show api_Disk.mk (newD d (goS renew half gen used).1 (goS renew half gen used).2.1 (goS renew half gen used).2.2 (bindP news)).Sectors [] = newD d (goS renew half gen used).1 (goS renew half gen used).2.1 (goS renew half gen used).2.2 (bindP news) from rfl]
      have hi := hgo.ok.hi
      rw [open_ok _ (by omega) (by rw [hgo.dirty]; decide), hgo.openS, Option.bind_some]
  · rw [if_pos c, if_pos c]; rfl
theorem add_go {d : api_Disk} {half gen used : Nat} {es : List Str} (h : Led d half gen used es) (news : List Str) (hn : news.length ≤ 66) :
    f_ledger_Add (ledR d half gen used es) news = some (doneS d half gen used es false news) := by
  unfold f_ledger_Add; rw [done_go h false news hn]; rfl
theorem renew_go {d : api_Disk} {half gen used : Nat} {es : List Str} (h : Led d half gen used es) (news : List Str) (hn : news.length ≤ 66) :
    f_ledger_Renew (ledR d half gen used es) news = some (doneS d half gen used es true news) := by
  unfold f_ledger_Renew; rw [done_go h true news hn]; rfl
end Go.Proofs.Ytjhelpeglgigbaa.V.M
end

section
/- Ledger: the empty one; what the laws share. -/
namespace Go.Proofs.Ytjhelpeglgigbaa.V.M
set_option linter.unusedVariables false
set_option linter.unusedSimpArgs false
open Go Go.RowKit
def fmtD (n : Nat) : api_Disk := mkD ((List.replicate n (List.replicate 128 0)).set 0 (headS 1 0))
theorem fmtD_len (n : Nat) : (fmtD n).Sectors.length = n := by show (List.set _ _ _).length = _; simp
theorem fmtD_hf (n : Nat) : hf (fmtD n) = n / 2 := by unfold hf; rw [fmtD_len]
theorem fmtD_0 {n : Nat} (h : 4 ≤ n) : (fmtD n).Sectors[0]? = some (headS 1 0) := by
  show (List.set _ _ _)[0]? = _; rw [List.getElem?_set_self (by simp; omega)]
theorem fmtD_i {n i : Nat} (h : i < n) (h0 : 0 < i) : (fmtD n).Sectors[i]? = some (List.replicate 128 0) := by
  show (List.set _ _ _)[i]? = _; rw [List.getElem?_set_ne (by omega), List.getElem?_replicate, if_pos h]
theorem fmtD_ok {n : Nat} (h1 : 4 ≤ n) (h2 : n ≤ 64) : OkD (fmtD n) :=
  ⟨by rw [fmtD_len]; exact h1, by rw [fmtD_len]; exact h2, by show 0 ≤ 200; decide, set_sect (fun s hs => by rw [(List.mem_replicate.mp hs).2]; simp) _ (headS_len 1 0)⟩
theorem fmt_sec0 {n : Nat} (h1 : 4 ≤ n) : secS (fmtD n) 0 = headS 1 0 := by rw [secS_get, Nat.zero_mul, fmtD_0 h1]; rfl
theorem fmt_sec1 {n : Nat} (h1 : 4 ≤ n) : secS (fmtD n) 1 = List.replicate 128 0 := by rw [secS_get, Nat.one_mul, fmtD_hf, fmtD_i (by omega) (by omega)]; rfl
theorem fmt_tells1 {n : Nat} (h1 : 4 ≤ n) : tellsS (fmtD n) 1 = (0, 0) := by
  unfold tellsS toldB
  rw [fmt_sec1 h1, show genN (List.replicate 128 0) = 0 by decide]
  rfl
theorem fmt_led {n : Nat} (h1 : 4 ≤ n) (h2 : n ≤ 64) : Led (fmtD n) 0 1 0 [] := by
  refine ⟨fmtD_ok h1 h2, rfl, pick_of (by decide) (tells_head (fmt_sec0 h1) (by decide) (by decide) (Nat.zero_le _) (by decide)) (fun _ => by rw [fmt_tells1 h1]; decide) (by omega), by decide, ?_⟩
  rw [List.take_zero]; rfl
theorem fmt_clean {n : Nat} (h1 : 4 ≤ n) (h2 : n ≤ 64) {half : Nat} (hh : half ≤ 1) : clean (roomS (fmtD n) half) 0 := by
  intro i _ hi
  have hok := fmtD_ok h1 h2
  have hm := half_mul_le (d := fmtD n) hh
  have hfn := fmtD_hf n
  rw [roomS_len hok hh] at hi
  rw [room_get _ hok hh i hi, fmtD_i (by omega) (by omega), Option.bind_some, List.getElem?_replicate, if_pos (by omega)]
theorem format_ok (n : Nat) (h1 : 4 ≤ n) (h2 : n ≤ 64) : f_ledger_Format (n : Int) = some (ledR (fmtD n) 0 1 0 [], 0) := by
  unfold f_ledger_Format
  have e : f_ledger_head 1 0 = some (headS 1 0) := head_ok 1 0 (by decide) (by decide)
  rw [if_pos (by omega), e, Option.bind_some, Int.toNat_natCast]
  show f_ledger_Open (fmtD n) = _
  have h := fmt_led h1 h2
  have hl := fmtD_len n
  rw [open_ok _ (by omega) (by rw [h.dirty]; decide), h.openS]
theorem clamp_ok (lo hi : Nat) (x : Int) (h : lo ≤ hi) : ∃ n : Nat, lo ≤ n ∧ n ≤ hi ∧ (if (hi : Int) < (if x < (lo : Int) then (lo : Int) else x) then (hi : Int) else (if x < (lo : Int) then (lo : Int) else x)) = (n : Int) := by
  by_cases a : x < (lo : Int)
  · rw [if_pos a, if_neg (by omega)]; exact ⟨lo, by omega, by omega, rfl⟩
  · rw [if_neg a]
    by_cases b : (hi : Int) < x
    · rw [if_pos b]; exact ⟨hi, by omega, by omega, rfl⟩
    · rw [if_neg b]; exact ⟨x.toNat, by omega, by omega, by omega⟩
theorem Led.ent_len {d : api_Disk} {half gen used : Nat} {es : List Str} (h : Led d half gen used es) : es.length ≤ 4000 := by
  have hl := hf_le h.ok
  have hu := h.used_le
  have e := h.ent
  unfold entS at e
  have := entG_len _ _ _ _ e
  rw [List.length_take, List.length_nil] at this
  omega
theorem Led.open_f {d : api_Disk} {half gen used : Nat} {es : List Str} (h : Led d half gen used es) : f_ledger_Open d = some (ledR d half gen used es, 0) := by
  have := h.ok.hi
  rw [open_ok _ (by omega) (by rw [h.dirty]; decide), h.openS]
theorem doneS_long {d : api_Disk} {half gen used : Nat} {es : List Str} {renew : Bool} {news : List Str} (h : ¬ mayP news) : doneS d half gen used es renew news = (zeroL, 2) := by unfold doneS; rw [if_pos h]
theorem doneS_full {d : api_Disk} {half gen used : Nat} {es : List Str} {renew : Bool} {news : List Str} (h : mayP news) (hf_ : fullP d (goS renew half gen used) (bindP news).length) : doneS d half gen used es renew news = (zeroL, 13) := by
  unfold doneS; rw [if_neg (show ¬ ¬ mayP news from fun h2 => h2 h), if_pos hf_]
theorem doneS_may {d : api_Disk} {half gen used : Nat} {es : List Str} {renew : Bool} {news : List Str} (h : mayP news) (hf_ : ¬ fullP d (goS renew half gen used) (bindP news).length) : doneS d half gen used es renew news =
    (ledR (newD d (goS renew half gen used).1 (goS renew half gen used).2.1 (goS renew half gen used).2.2 (bindP news)) (goS renew half gen used).1 (goS renew half gen used).2.1 ((goS renew half gen used).2.2 + (bindP news).length) (if renew then news else es ++ news), 0) := by
  unfold doneS; rw [if_neg (show ¬ ¬ mayP news from fun h2 => h2 h), if_neg hf_]
/-- Three ways. -/
theorem doneS_cases {d : api_Disk} {half gen used : Nat} {es : List Str} (h : Led d half gen used es) (renew : Bool) (news : List Str) :
    (doneS d half gen used es renew news = (zeroL, 2) ∨ doneS d half gen used es renew news = (zeroL, 13)) ∨
    ∃ d2 half2 gen2 used2, Led d2 half2 gen2 used2 (if renew then news else es ++ news) ∧ doneS d half gen used es renew news = (ledR d2 half2 gen2 used2 (if renew then news else es ++ news), 0) := by
  by_cases m : mayP news
  · by_cases f : fullP d (goS renew half gen used) (bindP news).length
    · exact .inl (.inr (doneS_full m f))
    · exact .inr ⟨_, _, _, _, h.go renew m f, doneS_may m f⟩
  · exact .inl (.inl (doneS_long m))
abbrev tupL (p : api_Ledger × Int) : Int × (List Str) × (List api_Write) × Int × Int × Int × (List Str) := (p.2, p.1.Disk.Sectors, p.1.Disk.Dirty, p.1.Half, p.1.Gen, p.1.Used, p.1.Entries)
theorem either_go {d : api_Disk} {half gen used : Nat} {es : List Str} (h : Led d half gen used es) (renew : Bool) (news : List Str) (hn : news.length ≤ 66) {α : Type} (k : Int × (List Str) × (List api_Write) × Int × Int × Int × (List Str) → Option α) :
    (Option.bind (if renew then (f_ledger_Renew (api_Ledger.mk (api_Disk.mk d.Sectors d.Dirty) (half : Int) (gen : Int) (used : Int) es) news).bind fun t3 => some (t3.2, t3.1.Disk.Sectors, t3.1.Disk.Dirty, t3.1.Half, t3.1.Gen, t3.1.Used, t3.1.Entries)
      else (f_ledger_Add (api_Ledger.mk (api_Disk.mk d.Sectors d.Dirty) (half : Int) (gen : Int) (used : Int) es) news).bind fun t3 => some (t3.2, t3.1.Disk.Sectors, t3.1.Disk.Dirty, t3.1.Half, t3.1.Gen, t3.1.Used, t3.1.Entries)) k) = k (tupL (doneS d half gen used es renew news)) := by
  cases renew with
  | true =>
    have e : f_ledger_Renew (api_Ledger.mk (api_Disk.mk d.Sectors d.Dirty) (half : Int) (gen : Int) (used : Int) es) news = some (doneS d half gen used es true news) := renew_go h news hn
    rw [if_pos rfl, e]; rfl
  | false =>
    have e : f_ledger_Add (api_Ledger.mk (api_Disk.mk d.Sectors d.Dirty) (half : Int) (gen : Int) (used : Int) es) news = some (doneS d half gen used es false news) := add_go h news hn
    rw [if_neg (by decide), e]; rfl
theorem same_refl (l : List Str) (h : l.length ≤ 1000000) : f_ref01_Same l l = some true := by rw [same_ok _ _ (by omega)]; simp
end Go.Proofs.Ytjhelpeglgigbaa.V.M
end

section
/- Ledger: the law LedgerSteps. -/
namespace Go.Proofs.Ytjhelpeglgigbaa.V.M
set_option linter.unusedVariables false
set_option linter.unusedSimpArgs false
open Go Go.RowKit
theorem with7_ok (d : api_Disk) (half gen used : Int) (s t : Str) (ht : t.length ≤ 100000) (k : Nat) : ∀ (m : Nat) (l : List Int), l.length + k = t.length → k < m → f_ref10_With_l7 d half gen used s t m l = some (l ++ List.replicate k 0) := by
  induction k with
  | zero =>
    intro m l hl hm
    obtain ⟨m, rfl⟩ : ∃ k, m = k + 1 := ⟨m - 1, by omega⟩
    rw [f_ref10_With_l7, if_neg (by simp; omega)]; simp
  | succ k ih =>
    intro m l hl hm
    obtain ⟨m, rfl⟩ : ∃ k, m = k + 1 := ⟨m - 1, by omega⟩
    rw [f_ref10_With_l7, if_pos (by simp; omega), gd_t _ (by omega), ih m (l ++ [0]) (by simp; omega) (by omega), List.append_assoc, List.replicate_succ]; rfl
theorem with13_ok (d : api_Disk) (h : OkD d) (half : Nat) (hh : half ≤ 1) (gen : Int) (used : Nat) (s : Str) (hu : used + s.length ≤ 128 * (hf d - 1)) (t th : Str) (ht : t.length = 128 * (hf d - 1)) (hth : th.length = t.length) (n : Nat) : ∀ (k m : Nat) (L : List Str), k + n = hf d - 1 → n < m → L.length = d.Sectors.length →
    ∃ z z2 L2, f_ref10_With_l13 d (half : Int) gen (used : Int) s t m (th.map bn) (k : Int) L = some (z, z2, L2) ∧ L2.length = d.Sectors.length ∧
      ∀ i, L2[i]? = if half * hf d + 1 + k ≤ i ∧ i < half * hf d + hf d ∧ s ≠ [] ∧ wrote used s.length (i - (half * hf d + 1)) then some (chunkS th (i - (half * hf d + 1))) else L[i]? := by
  have hl := hf_le h
  have hm0 := half_mul_le (d := d) hh
  induction n with
  | zero =>
    intro k m L hk hm hL
    obtain ⟨m, rfl⟩ : ∃ k, m = k + 1 := ⟨m - 1, by omega⟩
    rw [f_ref10_With_l13, w_i64 (n := 128 * (k : Int)) (by omega) (by omega), if_neg (by simp; omega)]
    exact ⟨_, _, L, rfl, hL, fun i => by rw [if_neg (by omega)]⟩
  | succ n ih =>
    intro k m L hk hm hL
    obtain ⟨m, rfl⟩ : ∃ k, m = k + 1 := ⟨m - 1, by omega⟩
    have e1 : IntKind.i64.wrap ((k : Int) + 1) = ((k + 1 : Nat) : Int) := w_s (by omega)
    have e2 : IntKind.i64.wrap (128 * (k : Int)) = ((128 * k : Nat) : Int) := by rw [w_i64 (by omega) (by omega)]; omega
    have e3 : IntKind.i64.wrap (((128 * k : Nat) : Int) + 128) = ((128 * k + 128 : Nat) : Int) := by rw [w_i64 (by omega) (by omega)]; omega
    have e4 : IntKind.i64.wrap (((half * hf d : Nat) : Int) + 1) = ((half * hf d + 1 : Nat) : Int) := w_s (by omega)
    have e5 : IntKind.i64.wrap (((half * hf d + 1 : Nat) : Int) + (k : Int)) = ((half * hf d + 1 + k : Nat) : Int) := by rw [w_i64 (by omega) (by omega)]; omega
    rw [f_ref10_With_l13, e2, if_pos (by simp; omega), e3, w_i64 (n := (used : Int) + (s.length : Int)) (by omega) (by omega), rAt_ok d h half hh, e1]
    by_cases c : s ≠ [] ∧ wrote used s.length k
    · have hp : 0 < s.length := List.length_pos_iff.mpr c.1
      have cw := c.2
      unfold wrote at cw
      rw [if_pos (by simp; omega), Option.bind_some, gd_t _ (by rw [List.length_map]; omega), e4, e5, ix_nat, List.getElem?_eq_getElem (by omega), Option.bind_some, Int.toNat_natCast]
      obtain ⟨z, z2, L2, q, q1, q2⟩ := ih (k + 1) m (L.set (half * hf d + 1 + k) ((cut (th.map bn) ((128 * k : Nat) : Int) ((128 * k + 128 : Nat) : Int)).map nb)) (by omega) (by omega) (by rw [List.length_set]; exact hL)
      refine ⟨z, z2, L2, q, q1, fun i => ?_⟩
      have ec : (cut (th.map bn) ((128 * k : Nat) : Int) ((128 * k + 128 : Nat) : Int)).map nb = chunkS th k := by
        rw [cut_mid]; unfold chunkS
        rw [← List.map_drop, ← List.map_take, nb_bn]
      rw [q2 i, ec]
      by_cases ci : i = half * hf d + 1 + k
      · rw [if_neg (by omega), ci, show half * hf d + 1 + k - (half * hf d + 1) = k by omega, if_pos ⟨by omega, by omega, c.1, c.2⟩, List.getElem?_set_self (by omega)]
      · rw [List.getElem?_set_ne (fun e => ci e.symm)]
        by_cases c3 : half * hf d + 1 + (k + 1) ≤ i ∧ i < half * hf d + hf d ∧ s ≠ [] ∧ wrote used s.length (i - (half * hf d + 1))
        · rw [if_pos c3, if_pos ⟨by omega, c3.2⟩]
        · rw [if_neg c3, if_neg (fun h => c3 ⟨by omega, h.2⟩)]
    · have cn : ¬ ((((decide ((s.length : Int) > 0)) && (decide ((((128 * k + 128 : Nat) : Int)) > (used : Int)))) && (decide (((128 * k : Nat) : Int) < (used : Int) + (s.length : Int)))) = true) := by
        intro h2
        simp only [Bool.and_eq_true, decide_eq_true_eq] at h2
        refine c ⟨fun e => ?_, ?_⟩
        · subst e; simp at h2
        · unfold wrote; omega
      rw [if_neg cn]
      obtain ⟨z, z2, L2, q, q1, q2⟩ := ih (k + 1) m L (by omega) (by omega) hL
      refine ⟨z, z2, L2, q, q1, fun i => ?_⟩
      rw [q2 i]
      by_cases ci : i = half * hf d + 1 + k
      · rw [if_neg (by omega), if_neg (fun h => c ⟨h.2.2.1, by have := h.2.2.2; rwa [ci, show half * hf d + 1 + k - (half * hf d + 1) = k by omega] at this⟩)]
      · by_cases c3 : half * hf d + 1 + (k + 1) ≤ i ∧ i < half * hf d + hf d ∧ s ≠ [] ∧ wrote used s.length (i - (half * hf d + 1))
        · rw [if_pos c3, if_pos ⟨by omega, c3.2⟩]
        · rw [if_neg c3, if_neg (fun h => c3 ⟨by omega, h.2⟩)]
theorem with_ok (d : api_Disk) (h : OkD d) (half : Nat) (hh : half ≤ 1) (gen used : Nat) (hg : gen < 281474976710656) (s : Str) (hu : used + s.length ≤ 128 * (hf d - 1)) : f_ref10_With d (half : Int) (gen : Int) (used : Int) s = some (newD d half gen used s) := by
  have hl := hf_le h
  have hi := h.hi
  have hr := roomS_len h hh
  have hm0 := half_mul_le (d := d) hh
  unfold f_ref10_With
  rw [gd_t _ (by omega), rroom_ok d h half hh, Option.bind_some]
  have lt : ((roomS d half).take used).length = used := by rw [List.length_take]; omega
  rw [gd_t _ (by omega), cut_zero, gd_t _ (by omega)]
  have l7 : (((roomS d half).take used ++ s).map bn).length = used + s.length := by rw [List.length_map, List.length_append]; omega
  have q7 := with7_ok d (half : Int) (gen : Int) (used : Int) s (roomS d half) (by omega) ((roomS d half).length - used - s.length) (((((roomS d half).length : Int) : Int) - ((((roomS d half).take used ++ s).length : Nat) : Int)).toNat + 1) (((roomS d half).take used ++ s).map bn) (by rw [l7]; omega) (by rw [List.length_append, lt]; omega)
  rw [q7, Option.bind_some]
  have eth : ((roomS d half).take used ++ s).map bn ++ List.replicate ((roomS d half).length - used - s.length) 0 = (thenS (roomS d half) used s).map bn := by
    unfold thenS; rw [List.map_append, List.map_append, List.map_append, List.map_replicate]; rfl
  rw [eth, show IntKind.i64.wrap (128 * 0) = 0 by decide]
  obtain ⟨z, z2, L2, q, q1, q2⟩ := with13_ok d h half hh (gen : Int) used s hu (roomS d half) (thenS (roomS d half) used s) hr (by rw [thenS_len (by omega)]) (hf d - 1) 0 ((((roomS d half).length : Int) - 0).toNat + 1) d.Sectors (by omega) (by omega) rfl
  rw [show ((0 : Nat) : Int) = 0 from rfl] at q
  rw [q, Option.bind_some]
  have eL : L2 = crashS (fun _ => 1) d half used s := by
    apply List.ext_getElem?
    intro i
    rw [q2 i]
    by_cases hs : s = []
    · subst hs; rw [if_neg (by simp), crash_get0]
    · rw [crash_get _ d h hh hu hs]
      by_cases c : half * hf d + 1 + 0 ≤ i ∧ i < half * hf d + hf d ∧ s ≠ [] ∧ wrote used s.length (i - (half * hf d + 1))
      · rw [if_pos c, if_pos ⟨by have := c.2.2.2; unfold wrote at this; omega, c.2.2.2⟩]; rfl
      · rw [if_neg c, if_neg (fun h2 => c ⟨by omega, by have := h2.2; unfold wrote at this; omega, hs, h2.2⟩)]
  rw [rAt_ok d h half hh, Option.bind_some, w_i64 (by omega) (by omega), ← Int.natCast_add, rhead_ok gen (used + s.length) hg (by omega), Option.bind_some]
  dsimp only
  rw [ix_nat, List.getElem?_eq_getElem (by omega), Option.bind_some, Int.toNat_natCast, eL]; rfl
def asc : Int → List api_Write → Prop
  | _, [] => True
  | a, w :: r => a < w.At ∧ asc w.At r
theorem steps39_ok (d t : api_Disk) (t4 : (List (List api_Write)) × Int) (s : Int × (List Str) × (List api_Write) × Int × Int × Int × (List Str)) (t7 : Str) (s2 : Int × Int × Int) (t10 : api_Ledger × Int) (v155 : Int) (x2 : List api_Write) (hx2 : x2.length ≤ 200) (S : List Str) (hS : OkD (mkD S)) (suf : List api_Write) : ∀ (pre : List api_Write) (m : Nat) (last : Int) (D : List api_Write), x2 = pre ++ suf → suf.length < m → (x2.length ≤ 1 ∨ asc last suf) → (∀ w ∈ suf, GoodW S.length w) → (∀ w ∈ D, GoodW S.length w) → D.length + suf.length ≤ 200 →
    ∃ z, f_law10_LedgerSteps_l39 d t t4 s t7 s2 t10 v155 x2 m last (pre.length : Int) S D = some (.inl (z, (x2.length : Int), S, D ++ suf)) := by
  induction suf with
  | nil =>
    intro pre m last D h hm _ _ _ _
    obtain ⟨m, rfl⟩ : ∃ k, m = k + 1 := ⟨m - 1, by omega⟩
    rw [List.append_nil] at h; subst h
    rw [f_law10_LedgerSteps_l39, if_neg (by simp), List.append_nil]
    exact ⟨_, rfl⟩
  | cons w r ih =>
    intro pre m last D h hm ha hg hD hn
    obtain ⟨m, rfl⟩ : ∃ k, m = k + 1 := ⟨m - 1, by omega⟩
    have hl : x2.length = pre.length + 1 + r.length := by rw [h]; simp; omega
    simp only [List.length_cons] at hm hn
    have e1 : ix x2 (pre.length : Int) = some w := by rw [h, ix_nat]; simp
    have hw := hg w (List.mem_cons_self ..)
    have es := save_ok (api_Disk.mk S D) ⟨hS.lo, hS.hi, by show D.length ≤ 200; omega, hS.sect⟩ hD [w] (by intro v hv; rw [List.mem_singleton.mp hv]; exact hw) (by show D.length + 1 ≤ 200; omega)
    rw [f_law10_LedgerSteps_l39, if_pos (by simp; omega), e1, Option.bind_some, if_neg (by
      rcases ha with ha | ha
      · simp; omega
      · have := ha.1; simp; omega), es, Option.bind_some, if_neg (show ¬ (((0 : Int) != 0) = true) by decide), w_i64 (by omega) (by omega)]
    have q := ih (pre ++ [w]) m w.At (D ++ [w]) (by simp [h]) (by omega) (ha.imp id (·.2)) (fun v hv => hg v (List.mem_cons_of_mem _ hv)) (by
      intro v hv
      rcases List.mem_append.mp hv with hv | hv
      · exact hD v hv
      · rw [List.mem_singleton.mp hv]; exact hw) (by simp; omega)
    rw [List.length_append, List.length_singleton, List.append_assoc] at q
    exact q
theorem asc_range (a : Nat) (g : Nat → Str) : ∀ (n k0 : Nat) (last : Int), last < ((a + k0 : Nat) : Int) → asc last ((List.range' k0 n).map fun k => api_Write.mk ((a + k : Nat) : Int) (g k))
  | 0, _, _, _ => trivial
  | n + 1, k0, last, h => by
    rw [List.range'_succ, List.map_cons]
    exact ⟨h, asc_range a g n (k0 + 1) _ (by dsimp only; omega)⟩
theorem endS_app (f : Nat → Int) : ∀ (a b : List api_Write) (i : Nat) (l : List Str), endS f i (a ++ b) l = endS f (i + a.length) b (endS f i a l)
  | [], b, i, l => rfl
  | w :: a, b, i, l => by rw [List.cons_append, endS, endS_app f a b, endS, List.length_cons, show i + 1 + a.length = i + (a.length + 1) by omega]
theorem ledgerSteps_true (d : api_Disk) (renew : Bool) (news : List Str) : f_law10_LedgerSteps d renew news = some true := by
  unfold f_law10_LedgerSteps
  rw [few10_ok, Option.bind_some]
  have t1 : (d.Sectors.take 66).length ≤ 66 := by rw [List.length_take]; omega
  have t2 : (d.Dirty.take 3).length ≤ 3 := by rw [List.length_take]; omega
  obtain ⟨T, hT⟩ : ∃ T, T = api_Disk.mk (d.Sectors.take 66) (d.Dirty.take 3) := ⟨_, rfl⟩
  rw [← hT]
  have hT1 : T.Sectors.length ≤ 66 := by rw [hT]; exact t1
  have hT2 : T.Dirty.length ≤ 3 := by rw [hT]; exact t2
  clear hT t1 t2
  have hx := fewL_len news
  rw [texts_ok, Option.bind_some, ropen_ok T (by omega) (by omega), Option.bind_some, alive10]
  generalize fewL news = x at hx
  rcases openS_cases T with ⟨h0, hd, he⟩ | ⟨h0, hz⟩
  · obtain ⟨half, gen, used, es, h⟩ := open_led h0
    rw [h.openS]
    dsimp only
    rw [steps_go h renew x hx, Option.bind_some]
    rw [show ∀ {α : Type} (k : Int × (List Str) × (List api_Write) × Int × Int × Int × (List Str) → Option α), (Option.bind (if renew then (f_ledger_Renew (ledR T half gen used es) x).bind fun t5 => some (t5.2, t5.1.Disk.Sectors, t5.1.Disk.Dirty, t5.1.Half, t5.1.Gen, t5.1.Used, t5.1.Entries) else (f_ledger_Add (ledR T half gen used es) x).bind fun t5 => some (t5.2, t5.1.Disk.Sectors, t5.1.Disk.Dirty, t5.1.Half, t5.1.Gen, t5.1.Used, t5.1.Entries)) k) = k (tupL (doneS T half gen used es renew x)) from fun k => either_go h renew x hx k]
    rw [if_neg (show ¬ (((0 : Int) != 0) = true) by decide)]
    have hl := hf_le h.ok
    have hg := go_le h renew
    by_cases m : mayP x
    · have hb := bindP_le x m.2
      have hm1 := m.1
      rw [if_neg (show ¬ ¬ mayP x from fun h2 => h2 m), may_ok _ (by omega), show decide (mayP x) = true from decide_eq_true m, Option.bind_some, rbind_ok x (by omega) m.2, Option.bind_some, go_bind h]
      by_cases f : fullP T (goS renew half gen used) (bindP x).length
      · rw [if_pos f, doneS_full m f]
        have hfull : ∀ {α : Type} (a b : Option α), (if ((decide (((bindP x).length : Int) > (IntKind.i64.wrap (((roomS T (goS renew half gen used).1).length : Int) - ((goS renew half gen used).2.2 : Int))))) || (decide (((goS renew half gen used).2.1 : Int) > 1099511627776))) = true then a else b) = a := by
          intro α a b
          rw [roomS_len h.ok hg.1, w_i64 (by omega) (by omega), if_pos (by unfold fullP at f; simp; omega)]
        dsimp only
        rw [rroom_ok T h.ok _ hg.1, Option.bind_some, hfull]
        rfl
      · rw [if_neg f, doneS_may m f]
        have hgo := h.go renew m f
        have hu : (goS renew half gen used).2.2 + (bindP x).length ≤ 128 * (hf T - 1) := by unfold fullP at f; omega
        have hnot : ∀ {α : Type} (a b : Option α), (if ((decide (((bindP x).length : Int) > (IntKind.i64.wrap (((roomS T (goS renew half gen used).1).length : Int) - ((goS renew half gen used).2.2 : Int))))) || (decide (((goS renew half gen used).2.1 : Int) > 1099511627776))) = true then a else b) = b := by
          intro α a b
          rw [roomS_len h.ok hg.1, w_i64 (by omega) (by omega), if_neg (by unfold fullP at f; simp; omega)]
        dsimp only
        rw [rroom_ok T h.ok _ hg.1, Option.bind_some, hnot, with_ok T h.ok _ hg.1 _ _ (by omega) _ hu, Option.bind_some]
        have hi := hgo.ok.hi
        have hgood := outW_good T h.ok hg.1 hu
        have hhead := head_good T h.ok hg.1 (goS renew half gen used).2.1 ((goS renew half gen used).2.2 + (bindP x).length)
        have onum : (if bindP x = [] then [] else outW ((goS renew half gen used).1 * hf T) (goS renew half gen used).2.2 (bindP x).length (thenS (roomS T (goS renew half gen used).1) (goS renew half gen used).2.2 (bindP x))).length ≤ 32 := by split; decide; exact outW_num _ _ _ _ (by omega)
        have oasc : asc (-1) (if bindP x = [] then [] else outW ((goS renew half gen used).1 * hf T) (goS renew half gen used).2.2 (bindP x).length (thenS (roomS T (goS renew half gen used).1) (goS renew half gen used).2.2 (bindP x))) := by
          split
          · trivial
          · exact asc_range _ _ _ _ _ (by omega)
        have opos : (decide (((bindP x).length : Int) > 0)) = (decide ((((if bindP x = [] then [] else outW ((goS renew half gen used).1 * hf T) (goS renew half gen used).2.2 (bindP x).length (thenS (roomS T (goS renew half gen used).1) (goS renew half gen used).2.2 (bindP x))).length : Nat) : Int) > 0)) := by
          rw [decide_eq_decide]
          split
          · rename_i e; rw [e]; simp
          · rename_i e
            have hp : 0 < (bindP x).length := List.length_pos_iff.mpr e
            unfold outW outNum; rw [List.length_map, List.length_range']; omega
        have eflush : endS (fun _ => 1) 0 ((if bindP x = [] then [] else outW ((goS renew half gen used).1 * hf T) (goS renew half gen used).2.2 (bindP x).length (thenS (roomS T (goS renew half gen used).1) (goS renew half gen used).2.2 (bindP x))) ++ [api_Write.mk (((goS renew half gen used).1 * hf T : Nat) : Int) (headS (goS renew half gen used).2.1 ((goS renew half gen used).2.2 + (bindP x).length))]) T.Sectors = (newD T (goS renew half gen used).1 (goS renew half gen used).2.1 (goS renew half gen used).2.2 (bindP x)).Sectors := by
          rw [endS_app]; rfl
        have elay : (layS T (goS renew half gen used).1 (goS renew half gen used).2.1 (goS renew half gen used).2.2 (bindP x)) = [(if bindP x = [] then [] else outW ((goS renew half gen used).1 * hf T) (goS renew half gen used).2.2 (bindP x).length (thenS (roomS T (goS renew half gen used).1) (goS renew half gen used).2.2 (bindP x))), [api_Write.mk (((goS renew half gen used).1 * hf T : Nat) : Int) (headS (goS renew half gen used).2.1 ((goS renew half gen used).2.2 + (bindP x).length))]] := rfl
        rw [elay]
        generalize (if bindP x = [] then [] else outW ((goS renew half gen used).1 * hf T) (goS renew half gen used).2.2 (bindP x).length (thenS (roomS T (goS renew half gen used).1) (goS renew half gen used).2.2 (bindP x))) = O at hgood onum oasc opos eflush
        have hN := newD_len T (goS renew half gen used).1 (goS renew half gen used).2.1 (goS renew half gen used).2.2 (bindP x)
        have hrA := rAt_ok T h.ok _ hg.1
        generalize newD T (goS renew half gen used).1 (goS renew half gen used).2.1 (goS renew half gen used).2.2 (bindP x) = ND at hgo hi eflush hN
        generalize headS (goS renew half gen used).2.1 ((goS renew half gen used).2.2 + (bindP x).length) = H at hhead eflush
        generalize (if renew = true then x else es ++ x) = es2 at hgo
        have ro : f_ref10_Open ND = some (ledR ND (goS renew half gen used).1 (goS renew half gen used).2.1 ((goS renew half gen used).2.2 + (bindP x).length) es2, 0) := by
          rw [ropen_ok _ (by omega) (by rw [hgo.dirty]; decide), hgo.openS]
        have lk := llike_ok (ledR ND (goS renew half gen used).1 (goS renew half gen used).2.1 ((goS renew half gen used).2.2 + (bindP x).length) es2) (ledR ND (goS renew half gen used).1 (goS renew half gen used).2.1 ((goS renew half gen used).2.2 + (bindP x).length) es2) rfl (by show ND.Sectors.length < _; omega) (by show ND.Dirty.length < _; rw [hgo.dirty]; decide) (by have := hgo.ent_len; show es2.length < _; omega)
        rw [ro, Option.bind_some]
        dsimp only
        rw [show f_ref10_Like (api_Ledger.mk (api_Disk.mk ND.Sectors ND.Dirty) ((goS renew half gen used).1 : Int) ((goS renew half gen used).2.1 : Int) (((goS renew half gen used).2.2 + (bindP x).length : Nat) : Int) es2) (ledR ND (goS renew half gen used).1 (goS renew half gen used).2.1 ((goS renew half gen used).2.2 + (bindP x).length) es2) = some true from by rw [show (api_Ledger.mk (api_Disk.mk ND.Sectors ND.Dirty) ((goS renew half gen used).1 : Int) ((goS renew half gen used).2.1 : Int) (((goS renew half gen used).2.2 + (bindP x).length : Nat) : Int) es2) = ledR ND (goS renew half gen used).1 (goS renew half gen used).2.1 ((goS renew half gen used).2.2 + (bindP x).length) es2 from rfl, lk]; simp]
        rw [show ∀ k : Bool → Option Bool, (gx (!(((0 : Int) != 0) || ((0 : Int) != 0))) (some true) default).bind k = k true from fun _ => rfl]
        rw [show ∀ k : List api_Write → Option Bool, (gx (!(((((0 : Int) != 0) || ((0 : Int) != 0)) || (!true)) || ((([O, [api_Write.mk (((goS renew half gen used).1 * hf T : Nat) : Int) H]] : List (List api_Write)).length : Int) != 2))) (ix [O, [api_Write.mk (((goS renew half gen used).1 * hf T : Nat) : Int) H]] 1) default).bind k = k [api_Write.mk (((goS renew half gen used).1 * hf T : Nat) : Int) H] from fun _ => rfl]
        rw [if_neg (show ¬ ((((((0 : Int) != 0) || ((0 : Int) != 0)) || (!true)) || ((([O, [api_Write.mk (((goS renew half gen used).1 * hf T : Nat) : Int) H]] : List (List api_Write)).length : Int) != 2)) || ((([api_Write.mk (((goS renew half gen used).1 * hf T : Nat) : Int) H] : List api_Write).length : Int) != 1)) = true by simp)]
        have hS : OkD (mkD T.Sectors) := ⟨h.ok.lo, h.ok.hi, by show 0 ≤ 200; decide, h.ok.sect⟩
        have e41 : ∀ s t7 s2 t10, ∃ z z2, f_law10_LedgerSteps_l41 d T ([O, [api_Write.mk (((goS renew half gen used).1 * hf T : Nat) : Int) H]], 0) s t7 s2 t10 3 (-1) 0 T.Sectors T.Dirty = some (.inl (z, z2, T.Sectors, O ++ [api_Write.mk (((goS renew half gen used).1 * hf T : Nat) : Int) H])) := by
          intro s t7 s2 t10
          obtain ⟨z, q1⟩ := steps39_ok d T ([O, [api_Write.mk (((goS renew half gen used).1 * hf T : Nat) : Int) H]], 0) s t7 s2 t10 0 O (by omega) T.Sectors hS O [] ((((O.length : Int) : Int) - 0).toNat + 1) (-1) [] rfl (by omega) (.inr oasc) hgood (by intro w hw; cases hw) (by simp; omega)
          obtain ⟨z2, q2⟩ := steps39_ok d T ([O, [api_Write.mk (((goS renew half gen used).1 * hf T : Nat) : Int) H]], 0) s t7 s2 t10 1 [api_Write.mk (((goS renew half gen used).1 * hf T : Nat) : Int) H] (by simp) T.Sectors hS [api_Write.mk (((goS renew half gen used).1 * hf T : Nat) : Int) H] [] ((((([api_Write.mk (((goS renew half gen used).1 * hf T : Nat) : Int) H] : List api_Write).length : Int) : Int) - 0).toNat + 1) z O rfl (by simp) (.inl (by simp)) hhead hgood (by simp; omega)
          rw [show (([] : List api_Write).length : Int) = 0 from rfl] at q1 q2
          rw [List.nil_append] at q1
          refine ⟨z2, 2, ?_⟩
          rw [h.dirty, f_law10_LedgerSteps_l41, if_pos (by simp), show ∀ y y2 : List api_Write, ix ([y, y2], (0 : Int)).1 0 = some y from fun _ _ => rfl, Option.bind_some, q1, Option.bind_some]
          dsimp only
          rw [show IntKind.i64.wrap ((0 : Int) + 1) = 1 by decide, f_law10_LedgerSteps_l41, if_pos (by simp), show ∀ y y2 : List api_Write, ix ([y, y2], (0 : Int)).1 1 = some y2 from fun _ _ => rfl, Option.bind_some, q2, Option.bind_some]
          dsimp only
          rw [show IntKind.i64.wrap ((1 : Int) + 1) = 2 by decide, f_law10_LedgerSteps_l41, if_neg (by simp)]
        obtain ⟨z, z2, e41⟩ := e41 _ _ _ _
        rw [show ((((([O, [api_Write.mk (((goS renew half gen used).1 * hf T : Nat) : Int) H]] : List (List api_Write)).length : Int) : Int) - 0).toNat + 1) = 3 from rfl, e41, Option.bind_some]
        dsimp only
        have hOn : ∀ w ∈ O ++ [api_Write.mk (((goS renew half gen used).1 * hf T : Nat) : Int) H], GoodW T.Sectors.length w := by
          intro w hw
          rcases List.mem_append.mp hw with hw | hw
          · exact hgood w hw
          · exact hhead w hw
        rw [flush_ok (api_Disk.mk T.Sectors (O ++ [api_Write.mk (((goS renew half gen used).1 * hf T : Nat) : Int) H])) ⟨h.ok.lo, h.ok.hi, by show (O ++ [_]).length ≤ 200; simp; omega, h.ok.sect⟩ hOn, Option.bind_some, eflush]
        dsimp only
        have hND : mkD ND.Sectors = ND := by
          have := hgo.dirty
          obtain ⟨a, b⟩ := ND
          subst this; rfl
        rw [show f_ref09_Like (api_Disk.mk ND.Sectors []) ND = some true from by rw [show api_Disk.mk ND.Sectors [] = ND from hND]; exact like_self ND (by omega) (by rw [hgo.dirty]; decide), hrA, opos]
        simp [gx, ix]
    · rw [if_pos m, doneS_long m, may_ok _ (by omega), show decide (mayP x) = false from decide_eq_false m]; rfl
  · have hR0 : f_ledger_Right zeroL = some false := by kernel_rfl
    have hS0 : f_ledger_Steps zeroL renew x = some ([], 1) := by unfold f_ledger_Steps; rw [hR0]; rfl
    have hA0 : f_ledger_Add zeroL x = some (zeroL, 1) := by unfold f_ledger_Add f_ledger_done f_ledger_Steps; rw [hR0]; rfl
    have hA1 : f_ledger_Renew zeroL x = some (zeroL, 1) := by unfold f_ledger_Renew f_ledger_done f_ledger_Steps; rw [hR0]; rfl
    rw [hz, hS0, hA0, hA1, Option.bind_some]
    have hb : ((openS T).2 != 0) = true := by simpa using h0
    rw [hb]
    cases renew <;> rfl
end Go.Proofs.Ytjhelpeglgigbaa.V.M
end

section
/- The functions' proofs and the plain laws, side by side. -/
namespace Go.Proofs.Ytjhelpeglgigbaa.V
set_option linter.unusedVariables false
set_option linter.unusedSimpArgs false
theorem ledgerSteps_true (d : api_Disk) (renew : Bool) (news : List Str) : f_law10_LedgerSteps d renew news = some true := M.ledgerSteps_true d renew news
end Go.Proofs.Ytjhelpeglgigbaa.V
end

section
/- Rows: what a row lays of type handles. -/
namespace Go.Proofs.Ytjhelpeglgigbaa.V
open Go Go.RowKit
set_option linter.unusedVariables false
set_option linter.unusedSimpArgs false
theorem glrep_h {w : World} {g u b o : Nat} (h : w.cell? ⟨g, 0, none⟩ = some (.iface u (.agg #[.pointer (some ⟨b, o, none⟩)]))) : RepD w (fun k => k < w.heap.size) (.ref [.ifc u true [.z (.hnd b o)]] 0) (.pointer (some ⟨g, 0, none⟩)) := by
  refine .ref _ 0 g 0 (fun _ => .iface u (.agg #[.pointer (some ⟨b, o, none⟩)])) (cell?_lt h) (fun j sc hj => ?_) (fun j sc hj => ?_)
  · match j, hj with
    | 0, hj => exact h
  · match j, hj with
    | 0, hj =>
      obtain rfl := Option.some.inj hj
      refine .ifa u _ _ rfl fun j sc hj => ?_
      match j, hj with
      | 0, hj => obtain rfl := Option.some.inj hj; exact .z (.hnd b o)
theorem handle_met {P : Program} {laid : List (String × DataW Unit)} {W : World} {v : String} {d : DataW Unit} {g u b o n : Nat} {ty : TypeId} {name : List UInt8} (h : handlesMet P laid W) (hm : (v, d) ∈ laid) (hf : d.funcsIn? = none)
    (hn : d.handleName? = some name) (hg : P.globalNamed v = some g) (hu : (P.cutTypes.find? (·.1 == "internal/reflectlite.rtype")).map (·.2) = some u) (hsz : P.types.size = n)
    (hone : ((List.range n).filter fun t => P.rowNamed t name) = [ty]) (hh : typeHandle P ty = .pointer (some ⟨b, o, none⟩)) : W.cell? ⟨g, 0, none⟩ = some (.iface u (.agg #[.pointer (some ⟨b, o, none⟩)])) := by
  have h1 := h _ hm
  simp only [hf] at h1
  obtain ⟨name', u', ty', e1, e2, e3, e4, e5⟩ := h1
  obtain rfl := Option.some.inj (hn.symm.trans e1)
  obtain rfl := Option.some.inj (hu.symm.trans e2)
  have hm : ty' ∈ (List.range n).filter fun t => P.rowNamed t name := List.mem_filter.2 ⟨List.mem_range.2 (by rw [← hsz]; exact e3), e4⟩
  rw [hone] at hm
  obtain rfl := List.mem_singleton.1 hm
  rw [hh] at e5
  simpa using World.var?_cell hg e5 0
theorem laid_split {P : Program} {laid : List (String × DataW Unit)} {W : World} (h : laidMetH P laid W) (hne : (laid.filter fun x => x.2.handleName?.isSome).isEmpty = false) : laidMet P (laid.filter fun x => x.2.handleName?.isNone) W ∧ handlesMet P (laid.filter fun x => x.2.handleName?.isSome) W := by
  unfold laidMetH at h
  generalize (laid.filter fun x => x.2.handleName?.isSome) = hs at h hne
  match hs, h, hne with
  | a :: r, h, _ => exact h
end Go.Proofs.Ytjhelpeglgigbaa.V
end

section
/- The row of the law LedgerSteps: for every input that the row speaks of the law returns true; each argument reads behind the call as it read before. -/
namespace Go.Proofs.Ytjhelpeglgigbaa.ledgerSteps
open Go.ChangeShapes Go.WideShapes Go.ChangeAt Go.RowKit Go.Proofs.Ytjhelpeglgigbaa.V Go.Proofs.YtjhelpeglgigbaaW.PrintWords
set_option linter.unusedVariables false
theorem ops_api_Write : OpS Try.prog 51 2 e_api_Write W_api_Write := ops_struct (fun a => api_Write.mk a.1 a.2) Try.underlying51 (by kernel_rfl) (OpSF.cons rfl rfl (by kernel_rfl) (ops_int (by kernel_rfl)) (OpSF.one rfl rfl (by kernel_rfl) rfl (ops_str (by kernel_rfl)))) (fun _ => rfl) (by intro a h; exact h)
theorem ops_api_Disk : OpS Try.prog 25 2 e_api_Disk W_api_Disk := ops_struct (fun a => api_Disk.mk a.1 a.2) Try.underlying25 (by kernel_rfl) (OpSF.cons rfl rfl (by kernel_rfl) (ops_slice (e := 9) (by kernel_rfl) (by kernel_rfl) (by decide) (ops_str (by kernel_rfl))) (OpSF.one rfl rfl (by kernel_rfl) rfl (ops_slice (e := 51) (by kernel_rfl) (by kernel_rfl) (by decide) ops_api_Write))) (fun _ => rfl) (by intro a h; exact h)
theorem own : ownKnob Try.prog.godebug = none := by kernel_rfl
theorem laidOut : laidOutB Try.prog = true := by kernel_rfl
theorem gl_ok {W : World} : GlOk glP W (fun k => k < W.heap.size) := fun g cs hg => by cases hg
set_option maxRecDepth 100000 in
theorem lifted (os : Os) (started : os.Started) (H : Type) (enc : TypeId × Value → H) :
    ReturnsInHanded {} Try.checked os 5 .any (Rows.ledgerStepsSpec.pre6 enc Try.prog Try.f5 Rows.ledgerStepsRow.domain false) (Rows.ledgerStepsSpec.post enc Try.prog Try.f5 false true false false) := by
  refine returnsInHanded_of_change_sized (C := Try.checked) own started (by kernel_rfl) Try.func5
    (ChangeSpec.witness6 (enc := enc) (C := Try.checked) false ⟨#[], #[.agg #[.slice none 0 0, .slice none 0 0], .bool false, .slice none 0 0], []⟩ 8 (by kernel_rfl) (by kernel_rfl) (by kernel_rfl) (by kernel_rfl)) ?_
  intro W base args ds gs before hval0 hW hcnd hsz0 _
  have hsz : (DataW.weightsEach Try.prog (Try.f5.params.toList ++ Rows.ledgerStepsSpec.plain.varTypes Try.prog) (ds ++ gs)).all (· ≤ reachBytes) = true := hsz0
  have hval : ∀ (j : Nat) t v, Try.f5.params[j]? = some t → args[j]? = some v → Value.okWide Try.prog W .any base t v := hval0
  have hW' := hW
  obtain ⟨p, q, hA0, hV, rfl, hfz, hnd⟩ := hW
  have hA : DataW.TrodAll enc Try.prog W 0 (fun _ => true) true Try.f5.params.toList args.toList ds p := hA0
  rw [Try.params5] at hA hval hsz
  obtain ⟨v0, vs0, d0, ds0, p0, q0, hargs, rfl, rfl, h0, r0⟩ := trodAll_cons hA
  obtain ⟨v1, vs1, d1, ds1, p1, q1, rfl, rfl, rfl, h1, r1⟩ := trodAll_cons r0
  obtain ⟨v2, vs2, d2, ds2, p2, q2, rfl, rfl, rfl, h2, r2⟩ := trodAll_cons r1
  obtain ⟨rfl, rfl, rfl⟩ := trodAll_nil r2
  obtain rfl : args = #[v0, v1, v2] := by cases args; simp_all
  obtain ⟨rfl, rfl⟩ := trodVars_none hV
  have k0 := h0
  have lt0 : ∀ x ∈ p0, x.block < W.heap.size := by obtain ⟨m, hm⟩ := k0; exact DataW.trod_lt m _ _ _ hm
  obtain ⟨a0, e0, w0⟩ := arg_struct Try.underlying25 ops_api_Disk (hval 0 25 v0 rfl rfl) h0
  have k1 := h1
  have lt1 : ∀ x ∈ p1, x.block < W.heap.size := by obtain ⟨m, hm⟩ := k1; exact DataW.trod_lt m _ _ _ hm
  obtain ⟨a1, e1, w1⟩ := arg_bool Try.underlying4 (hval 1 4 v1 rfl rfl) h1
  have k2 := h2
  have lt2 : ∀ x ∈ p2, x.block < W.heap.size := by obtain ⟨m, hm⟩ := k2; exact DataW.trod_lt m _ _ _ hm
  obtain ⟨a2, e2, w2⟩ := arg_slice Try.underlying22 (ops_slice (e := 9) (by kernel_rfl) (by kernel_rfl) (by decide) (ops_str (by kernel_rfl))) (hval 2 22 v2 rfl rfl) h2
  refine (Fun.lawG (xs := [_, _, _]) (vs := [v0, v1, v2]) (w := W) (f_law10_LedgerSteps_ok a0 a1 a2 true (by first | exact ledgerSteps_true a0 a1 a2 w0 w1 w2 | exact ledgerSteps_true a0 a1 a2 | (apply ledgerSteps_true <;> assumption))) gl_ok ⟨e0, e1, e2, trivial⟩).mono fun e W' ⟨he, bel⟩ => ?_
  subst he
  exact ⟨_, rfl, _, _, _, [], _, [], hW', trodAll_mk1 (shut_bool Try.underlying4 _), (trodAll_cons_mk (Below.trod laidOut (by kernel_rfl) (of_decide_eq_true (by kernel_rfl)) k0 bel lt0) (trodAll_cons_mk (Below.trod laidOut (by kernel_rfl) (of_decide_eq_true (by kernel_rfl)) k1 bel lt1) (trodAll_cons_mk (Below.trod laidOut (by kernel_rfl) (of_decide_eq_true (by kernel_rfl)) k2 bel lt2) trodAll_mk0))), rfl, bel.frame _, fun h => by cases h⟩
theorem over : Rows.ledgerStepsRow.holds Try.pinned (OpenSpec.ofChange Rows.ledgerStepsSpec) :=
  OpenClaim.holds_of_wide 5 Try.f5 rfl rfl rfl rfl rfl rfl rfl ⟨rfl, rfl, rfl, rfl, rfl⟩ rfl rfl rfl rfl rfl (by kernel_rfl) Try.func5 (by kernel_rfl)
    (of_decide_eq_true (by kernel_rfl)) (by unfold Func.isWrapper; first | (rw [if_pos (by decide +kernel)]; kernel_rfl) | (rw [if_neg (by decide +kernel)]; exact ⟨rfl, rfl⟩))
    (fun os started H enc _ => lifted os started H enc)
theorem proved : Rows.LedgerStepsSaid := over
end Go.Proofs.Ytjhelpeglgigbaa.ledgerSteps
namespace Go.Proofs.Ytjhelpeglgigbaa
/-- The statement, under a short name, for the claim. -/
theorem ledgerSteps_holds : Rows.LedgerStepsSaid := ledgerSteps.proved
#print axioms ledgerSteps_holds
end Go.Proofs.Ytjhelpeglgigbaa
end
