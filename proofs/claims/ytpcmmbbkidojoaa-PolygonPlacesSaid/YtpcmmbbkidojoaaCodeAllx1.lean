/- The code of functions of the program, for the abstract machine; each is what the function is turned into. No condition. -/
import Derived.Test.YtpcmmbbkidojoaaEvaO
import Derived.Test.YtpcmmbbkidojoaaChecked
import Derived.KernelRfl
namespace Go.Proofs.Ytpcmmbbkidojoaa.CodeAll
open Go Go.Proofs.Ytpcmmbbkidojoaa.Eva
/-- skyway/skywaykeep2.TerrainGrows -/
def c11 : CF where
  np := 5
  nt := 99
  res := [.t 10]
  code := .seq (.reg [
      ⟨(some 5), .box (.t 0), none, [], false⟩,
      ⟨(some 6), .box (.t 1), none, [], false⟩,
      ⟨(some 10), .mv (.k (.bool false)), none, [], false⟩])
    (.seq (.seq (.reg [
        ⟨(some 22), .call (.k (.fn 32 [])) [(.k (.int .i64 500))], none, [], false⟩,
        ⟨(some 23), .mk [.int .i64 0, .int .i64 0] [(0, 1, (.k (.int .i64 1500)))], none, [], false⟩,
        ⟨(some 24), .call (.k (.fn 31 [])) [(.t 22), (.t 23), (.k (.int .i64 0)), (.k (.int .i64 100))], none, [], false⟩,
        ⟨(some 21), .mv (.t 24), none, [], false⟩,
        ⟨(some 25), .ext (.t 21) 0, none, [], false⟩,
        ⟨(some 26), .ext (.t 21) 1, none, [], false⟩,
        ⟨(some 11), .mv (.t 25), none, [], false⟩,
        ⟨(some 12), .mv (.t 26), none, [], false⟩])
      (.seq (.reg [
         ⟨(some 27), .mv (.t 12), none, [], false⟩,
         ⟨(some 28), .bin .neq (.t 27) (.k (.int .i64 0)), none, [], false⟩,
         ⟨(some 29), .mv (.t 28), none, [], false⟩,
         ⟨(some 30), .mv (.t 11), (some (29, false)), [], false⟩,
         ⟨(some 31), .bin .neq (.t 30) (.k (.int .i64 600)), (some (29, false)), [], false⟩,
         ⟨(some 32), .pick (.t 29) (.k (.bool true)) (.t 31), none, [], false⟩])
       (.cond (.t 32) (.seq (.reg [
           ⟨(some 10), .mv (.k (.bool false)), none, [], false⟩])
         (.ret))
        (.skip))))
     (.seq (.reg [
        ⟨(some 34), .ldn 6 (.t 5), none, [], false⟩,
        ⟨(some 35), .ldn 2 (.t 6), none, [], false⟩,
        ⟨(some 36), .mv (.t 2), none, [], false⟩,
        ⟨(some 37), .call (.k (.fn 33 [])) [(.t 34), (.t 35), (.t 36)], none, [], false⟩,
        ⟨(some 33), .mv (.t 37), none, [], false⟩,
        ⟨(some 38), .ext (.t 33) 0, none, [], false⟩,
        ⟨(some 39), .ext (.t 33) 1, none, [], false⟩,
        ⟨(some 13), .mv (.t 38), none, [], false⟩,
        ⟨(some 14), .mv (.t 39), none, [], false⟩])
      (.seq (.reg [
         ⟨(some 41), .ldn 6 (.t 5), none, [], false⟩,
         ⟨(some 42), .ldn 2 (.t 6), none, [], false⟩,
         ⟨(some 43), .mv (.t 2), none, [], false⟩,
         ⟨(some 44), .mv (.t 3), none, [], false⟩,
         ⟨(some 45), .call (.k (.fn 25 [])) [(.t 44), (.k (.int .i64 0)), (.k (.int .i64 100000))], none, [], true⟩,
         ⟨(some 46), .bin .add (.t 43) (.t 45), none, [], false⟩,
         ⟨(some 47), .call (.k (.fn 33 [])) [(.t 41), (.t 42), (.t 46)], none, [], false⟩,
         ⟨(some 40), .mv (.t 47), none, [], false⟩,
         ⟨(some 48), .ext (.t 40) 0, none, [], false⟩,
         ⟨(some 49), .ext (.t 40) 1, none, [], false⟩,
         ⟨(some 15), .mv (.t 48), none, [], false⟩,
         ⟨(some 16), .mv (.t 49), none, [], false⟩])
       (.seq (.reg [
          ⟨(some 51), .ldn 6 (.t 5), none, [], false⟩,
          ⟨(some 52), .ldn 2 (.t 6), none, [], false⟩,
          ⟨(some 53), .call (.k (.fn 34 [])) [(.t 51), (.t 52)], none, [], false⟩,
          ⟨(some 50), .mv (.t 53), none, [], false⟩,
          ⟨(some 54), .ext (.t 50) 0, none, [], false⟩,
          ⟨(some 55), .ext (.t 50) 1, none, [], false⟩,
          ⟨(some 17), .mv (.t 54), none, [], false⟩,
          ⟨(some 18), .mv (.t 55), none, [], false⟩])
        (.seq (.reg [
           ⟨(some 57), .ldn 6 (.t 5), none, [], false⟩,
           ⟨(some 58), .ldn 2 (.t 6), none, [], false⟩,
           ⟨(some 59), .mv (.t 2), none, [], false⟩,
           ⟨(some 60), .mv (.t 4), none, [], false⟩,
           ⟨(some 61), .call (.k (.fn 31 [])) [(.t 57), (.t 58), (.t 59), (.t 60)], none, [], false⟩,
           ⟨(some 56), .mv (.t 61), none, [], false⟩,
           ⟨(some 62), .ext (.t 56) 0, none, [], false⟩,
           ⟨(some 63), .ext (.t 56) 1, none, [], false⟩,
           ⟨(some 19), .mv (.t 62), none, [], false⟩,
           ⟨(some 20), .mv (.t 63), none, [], false⟩])
         (.seq (.seq (.reg [
             ⟨(some 64), .mv (.t 14), none, [], false⟩,
             ⟨(some 65), .bin .neq (.t 64) (.k (.int .i64 0)), none, [], false⟩])
           (.cond (.t 65) (.seq (.reg [
               ⟨(some 66), .mv (.t 13), none, [], false⟩,
               ⟨(some 67), .bin .eql (.t 66) (.k (.int .i64 0)), none, [], false⟩,
               ⟨(some 68), .mv (.t 67), none, [], false⟩,
               ⟨(some 69), .mv (.t 19), (some (68, true)), [], false⟩,
               ⟨(some 70), .bin .eql (.t 69) (.k (.int .i64 0)), (some (68, true)), [], false⟩,
               ⟨(some 71), .pick (.t 68) (.t 70) (.k (.bool false)), none, [], false⟩,
               ⟨(some 10), .mv (.t 71), none, [], false⟩])
             (.ret))
            (.skip)))
          (.seq (.reg [
             ⟨(some 72), .mv (.t 16), none, [], false⟩,
             ⟨(some 73), .bin .neq (.t 72) (.k (.int .i64 0)), none, [], false⟩,
             ⟨(some 74), .mv (.t 73), none, [], false⟩,
             ⟨(some 75), .mv (.t 13), (some (74, false)), [], false⟩,
             ⟨(some 76), .mv (.t 15), (some (74, false)), [], false⟩,
             ⟨(some 77), .bin .leq (.t 75) (.t 76), (some (74, false)), [], false⟩,
             ⟨(some 78), .pick (.t 74) (.k (.bool true)) (.t 77), none, [], false⟩,
             ⟨(some 79), .mv (.t 78), none, [], false⟩,
             ⟨(some 80), .mv (.t 18), (some (79, true)), [], false⟩,
             ⟨(some 81), .bin .eql (.t 80) (.k (.int .i64 0)), (some (79, true)), [], false⟩,
             ⟨(some 82), .pick (.t 79) (.t 81) (.k (.bool false)), none, [], false⟩,
             ⟨(some 83), .mv (.t 82), none, [], false⟩,
             ⟨(some 84), .mv (.t 17), (some (83, true)), [], false⟩,
             ⟨(some 85), .mv (.t 13), (some (83, true)), [], false⟩,
             ⟨(some 86), .bin .leq (.t 84) (.t 85), (some (83, true)), [], false⟩,
             ⟨(some 87), .pick (.t 83) (.t 86) (.k (.bool false)), none, [], false⟩,
             ⟨(some 88), .mv (.t 87), none, [], false⟩,
             ⟨(some 89), .mv (.t 20), (some (88, true)), [], false⟩,
             ⟨(some 90), .bin .neq (.t 89) (.k (.int .i64 0)), (some (88, true)), [], false⟩,
             ⟨(some 91), .mv (.t 90), (some (88, true)), [], false⟩,
             ⟨(some 92), .mv (.t 19), (some (91, false)), [], false⟩,
             ⟨(some 93), .mv (.t 13), (some (91, false)), [], false⟩,
             ⟨(some 94), .mv (.t 4), (some (91, false)), [], false⟩,
             ⟨(some 95), .bin .add (.t 93) (.t 94), (some (91, false)), [], false⟩,
             ⟨(some 96), .bin .eql (.t 92) (.t 95), (some (91, false)), [], false⟩,
             ⟨(some 97), .pick (.t 91) (.k (.bool true)) (.t 96), (some (88, true)), [], false⟩,
             ⟨(some 98), .pick (.t 88) (.t 97) (.k (.bool false)), none, [], false⟩,
             ⟨(some 10), .mv (.t 98), none, [], false⟩])
           (.ret))))))))
/-- skyway/begin.Check -/
def c36 : CF where
  np := 1
  nt := 24
  res := [.t 2]
  code := .seq (.reg [
      ⟨(some 1), .box (.t 0), none, [], false⟩,
      ⟨(some 2), .mv (.k (.int .i64 0)), none, [], false⟩])
    (.seq (.blk 0 (.seq (.reg [
         ⟨(some 4), .fad 1 (.t 1), none, [], false⟩,
         ⟨(some 5), .ld1 (.t 4), none, [], false⟩,
         ⟨(some 6), .bin .lss (.t 5) (.k (.int .i64 0)), none, [], false⟩,
         ⟨(some 7), .mv (.t 6), none, [], false⟩,
         ⟨(some 8), .fad 1 (.t 1), (some (7, false)), [], false⟩,
         ⟨(some 9), .ld1 (.t 8), (some (7, false)), [], false⟩,
         ⟨(some 10), .bin .gtr (.t 9) (.k (.int .i64 16)), (some (7, false)), [], false⟩,
         ⟨(some 11), .pick (.t 7) (.k (.bool true)) (.t 10), none, [], false⟩,
         ⟨(some 3), .mv (.t 11), none, [], false⟩])
       (.cond (.t 3) (.seq (.reg [
           ⟨(some 2), .mv (.k (.int .i64 4)), none, [], false⟩])
         (.ret))
        (.seq (.reg [
           ⟨(some 13), .fad 0 (.t 1), none, [], false⟩,
           ⟨(some 14), .ld1 (.t 13), none, [], false⟩,
           ⟨(some 15), .bin .lss (.t 14) (.k (.int .i64 0)), none, [], false⟩,
           ⟨(some 16), .mv (.t 15), none, [], false⟩,
           ⟨(some 17), .fad 0 (.t 1), (some (16, false)), [], false⟩,
           ⟨(some 18), .ld1 (.t 17), (some (16, false)), [], false⟩,
           ⟨(some 19), .fad 1 (.t 1), (some (16, false)), [], false⟩,
           ⟨(some 20), .ld1 (.t 19), (some (16, false)), [], false⟩,
           ⟨(some 21), .bin .shl (.k (.int .i64 1)) (.t 20), (some (16, false)), [], false⟩,
           ⟨(some 22), .bin .geq (.t 18) (.t 21), (some (16, false)), [], false⟩,
           ⟨(some 23), .pick (.t 16) (.k (.bool true)) (.t 22), none, [], false⟩,
           ⟨(some 12), .mv (.t 23), none, [], false⟩])
         (.cond (.t 12) (.seq (.reg [
             ⟨(some 2), .mv (.k (.int .i64 3)), none, [], false⟩])
           (.ret))
          (.skip))))))
     (.seq (.reg [
        ⟨(some 2), .mv (.k (.int .i64 0)), none, [], false⟩])
      (.ret)))
/-- skyway/begin.CheckRule -/
def c61 : CF where
  np := 2
  nt := 20
  res := [.t 4]
  code := .seq (.reg [
      ⟨(some 4), .mv (.k (.int .i64 0)), none, [], false⟩])
    (.seq (.seq (.reg [
        ⟨(some 5), .mv (.t 1), none, [], false⟩,
        ⟨(some 6), .bin .lss (.t 5) (.k (.int .i64 1)), none, [], false⟩,
        ⟨(some 7), .mv (.t 6), none, [], false⟩,
        ⟨(some 8), .mv (.t 1), (some (7, false)), [], false⟩,
        ⟨(some 9), .bin .gtr (.t 8) (.k (.int .i64 16)), (some (7, false)), [], false⟩,
        ⟨(some 10), .pick (.t 7) (.k (.bool true)) (.t 9), none, [], false⟩,
        ⟨(some 11), .mv (.t 10), none, [], false⟩,
        ⟨(some 12), .mv (.t 0), (some (11, false)), [], false⟩,
        ⟨(some 13), .bin .lss (.t 12) (.k (.int .i64 1)), (some (11, false)), [], false⟩,
        ⟨(some 14), .pick (.t 11) (.k (.bool true)) (.t 13), none, [], false⟩,
        ⟨(some 15), .mv (.t 14), none, [], false⟩,
        ⟨(some 16), .mv (.t 0), (some (15, false)), [], false⟩,
        ⟨(some 17), .mv (.t 1), (some (15, false)), [], false⟩,
        ⟨(some 18), .bin .gtr (.t 16) (.t 17), (some (15, false)), [], false⟩,
        ⟨(some 19), .pick (.t 15) (.k (.bool true)) (.t 18), none, [], false⟩])
      (.cond (.t 19) (.seq (.reg [
          ⟨(some 4), .mv (.k (.int .i64 4)), none, [], false⟩])
        (.ret))
       (.skip)))
     (.seq (.reg [
        ⟨(some 4), .mv (.k (.int .i64 0)), none, [], false⟩])
      (.ret)))
/-- math/bits.OnesCount32 -/
def c83 : CF where
  np := 1
  nt := 21
  res := [.t 2]
  code := .seq (.reg [
      ⟨(some 2), .mv (.k (.int .i64 0)), none, [], false⟩])
    (.seq (.reg [
       ⟨(some 3), .mv (.t 0), none, [], false⟩,
       ⟨(some 4), .bin .shr (.t 3) (.k (.int .u64 24)), none, [], false⟩,
       ⟨(some 5), .ixs (.k (.str ⟨#[0, 1, 1, 2, 1, 2, 2, 3, 1, 2, 2, 3, 2, 3, 3, 4, 1, 2, 2, 3, 2, 3, 3, 4, 2, 3, 3, 4, 3, 4, 4, 5, 1, 2, 2, 3, 2, 3, 3, 4, 2, 3, 3, 4, 3, 4, 4, 5, 2, 3, 3, 4, 3, 4, 4, 5, 3, 4, 4, 5, 4, 5, 5, 6, 1, 2, 2, 3, 2, 3, 3, 4, 2, 3, 3, 4, 3, 4, 4, 5, 2, 3, 3, 4, 3, 4, 4, 5, 3, 4, 4, 5, 4, 5, 5, 6, 2, 3, 3, 4, 3, 4, 4, 5, 3, 4, 4, 5, 4, 5, 5, 6, 3, 4, 4, 5, 4, 5, 5, 6, 4, 5, 5, 6, 5, 6, 6, 7, 1, 2, 2, 3, 2, 3, 3, 4, 2, 3, 3, 4, 3, 4, 4, 5, 2, 3, 3, 4, 3, 4, 4, 5, 3, 4, 4, 5, 4, 5, 5, 6, 2, 3, 3, 4, 3, 4, 4, 5, 3, 4, 4, 5, 4, 5, 5, 6, 3, 4, 4, 5, 4, 5, 5, 6, 4, 5, 5, 6, 5, 6, 6, 7, 2, 3, 3, 4, 3, 4, 4, 5, 3, 4, 4, 5, 4, 5, 5, 6, 3, 4, 4, 5, 4, 5, 5, 6, 4, 5, 5, 6, 5, 6, 6, 7, 3, 4, 4, 5, 4, 5, 5, 6, 4, 5, 5, 6, 5, 6, 6, 7, 4, 5, 5, 6, 5, 6, 6, 7, 5, 6, 6, 7, 6, 7, 7, 8]⟩)) (.t 4), none, [], false⟩,
       ⟨(some 6), .mv (.t 0), none, [], false⟩,
       ⟨(some 7), .bin .shr (.t 6) (.k (.int .u64 16)), none, [], false⟩,
       ⟨(some 8), .bin .and (.t 7) (.k (.int .u32 255)), none, [], false⟩,
       ⟨(some 9), .ixs (.k (.str ⟨#[0, 1, 1, 2, 1, 2, 2, 3, 1, 2, 2, 3, 2, 3, 3, 4, 1, 2, 2, 3, 2, 3, 3, 4, 2, 3, 3, 4, 3, 4, 4, 5, 1, 2, 2, 3, 2, 3, 3, 4, 2, 3, 3, 4, 3, 4, 4, 5, 2, 3, 3, 4, 3, 4, 4, 5, 3, 4, 4, 5, 4, 5, 5, 6, 1, 2, 2, 3, 2, 3, 3, 4, 2, 3, 3, 4, 3, 4, 4, 5, 2, 3, 3, 4, 3, 4, 4, 5, 3, 4, 4, 5, 4, 5, 5, 6, 2, 3, 3, 4, 3, 4, 4, 5, 3, 4, 4, 5, 4, 5, 5, 6, 3, 4, 4, 5, 4, 5, 5, 6, 4, 5, 5, 6, 5, 6, 6, 7, 1, 2, 2, 3, 2, 3, 3, 4, 2, 3, 3, 4, 3, 4, 4, 5, 2, 3, 3, 4, 3, 4, 4, 5, 3, 4, 4, 5, 4, 5, 5, 6, 2, 3, 3, 4, 3, 4, 4, 5, 3, 4, 4, 5, 4, 5, 5, 6, 3, 4, 4, 5, 4, 5, 5, 6, 4, 5, 5, 6, 5, 6, 6, 7, 2, 3, 3, 4, 3, 4, 4, 5, 3, 4, 4, 5, 4, 5, 5, 6, 3, 4, 4, 5, 4, 5, 5, 6, 4, 5, 5, 6, 5, 6, 6, 7, 3, 4, 4, 5, 4, 5, 5, 6, 4, 5, 5, 6, 5, 6, 6, 7, 4, 5, 5, 6, 5, 6, 6, 7, 5, 6, 6, 7, 6, 7, 7, 8]⟩)) (.t 8), none, [], false⟩,
       ⟨(some 10), .bin .add (.t 5) (.t 9), none, [], false⟩,
       ⟨(some 11), .mv (.t 0), none, [], false⟩,
       ⟨(some 12), .bin .shr (.t 11) (.k (.int .u64 8)), none, [], false⟩,
       ⟨(some 13), .bin .and (.t 12) (.k (.int .u32 255)), none, [], false⟩,
       ⟨(some 14), .ixs (.k (.str ⟨#[0, 1, 1, 2, 1, 2, 2, 3, 1, 2, 2, 3, 2, 3, 3, 4, 1, 2, 2, 3, 2, 3, 3, 4, 2, 3, 3, 4, 3, 4, 4, 5, 1, 2, 2, 3, 2, 3, 3, 4, 2, 3, 3, 4, 3, 4, 4, 5, 2, 3, 3, 4, 3, 4, 4, 5, 3, 4, 4, 5, 4, 5, 5, 6, 1, 2, 2, 3, 2, 3, 3, 4, 2, 3, 3, 4, 3, 4, 4, 5, 2, 3, 3, 4, 3, 4, 4, 5, 3, 4, 4, 5, 4, 5, 5, 6, 2, 3, 3, 4, 3, 4, 4, 5, 3, 4, 4, 5, 4, 5, 5, 6, 3, 4, 4, 5, 4, 5, 5, 6, 4, 5, 5, 6, 5, 6, 6, 7, 1, 2, 2, 3, 2, 3, 3, 4, 2, 3, 3, 4, 3, 4, 4, 5, 2, 3, 3, 4, 3, 4, 4, 5, 3, 4, 4, 5, 4, 5, 5, 6, 2, 3, 3, 4, 3, 4, 4, 5, 3, 4, 4, 5, 4, 5, 5, 6, 3, 4, 4, 5, 4, 5, 5, 6, 4, 5, 5, 6, 5, 6, 6, 7, 2, 3, 3, 4, 3, 4, 4, 5, 3, 4, 4, 5, 4, 5, 5, 6, 3, 4, 4, 5, 4, 5, 5, 6, 4, 5, 5, 6, 5, 6, 6, 7, 3, 4, 4, 5, 4, 5, 5, 6, 4, 5, 5, 6, 5, 6, 6, 7, 4, 5, 5, 6, 5, 6, 6, 7, 5, 6, 6, 7, 6, 7, 7, 8]⟩)) (.t 13), none, [], false⟩,
       ⟨(some 15), .bin .add (.t 10) (.t 14), none, [], false⟩,
       ⟨(some 16), .mv (.t 0), none, [], false⟩,
       ⟨(some 17), .bin .and (.t 16) (.k (.int .u32 255)), none, [], false⟩,
       ⟨(some 18), .ixs (.k (.str ⟨#[0, 1, 1, 2, 1, 2, 2, 3, 1, 2, 2, 3, 2, 3, 3, 4, 1, 2, 2, 3, 2, 3, 3, 4, 2, 3, 3, 4, 3, 4, 4, 5, 1, 2, 2, 3, 2, 3, 3, 4, 2, 3, 3, 4, 3, 4, 4, 5, 2, 3, 3, 4, 3, 4, 4, 5, 3, 4, 4, 5, 4, 5, 5, 6, 1, 2, 2, 3, 2, 3, 3, 4, 2, 3, 3, 4, 3, 4, 4, 5, 2, 3, 3, 4, 3, 4, 4, 5, 3, 4, 4, 5, 4, 5, 5, 6, 2, 3, 3, 4, 3, 4, 4, 5, 3, 4, 4, 5, 4, 5, 5, 6, 3, 4, 4, 5, 4, 5, 5, 6, 4, 5, 5, 6, 5, 6, 6, 7, 1, 2, 2, 3, 2, 3, 3, 4, 2, 3, 3, 4, 3, 4, 4, 5, 2, 3, 3, 4, 3, 4, 4, 5, 3, 4, 4, 5, 4, 5, 5, 6, 2, 3, 3, 4, 3, 4, 4, 5, 3, 4, 4, 5, 4, 5, 5, 6, 3, 4, 4, 5, 4, 5, 5, 6, 4, 5, 5, 6, 5, 6, 6, 7, 2, 3, 3, 4, 3, 4, 4, 5, 3, 4, 4, 5, 4, 5, 5, 6, 3, 4, 4, 5, 4, 5, 5, 6, 4, 5, 5, 6, 5, 6, 6, 7, 3, 4, 4, 5, 4, 5, 5, 6, 4, 5, 5, 6, 5, 6, 6, 7, 4, 5, 5, 6, 5, 6, 6, 7, 5, 6, 6, 7, 6, 7, 7, 8]⟩)) (.t 17), none, [], false⟩,
       ⟨(some 19), .bin .add (.t 15) (.t 18), none, [], false⟩,
       ⟨(some 20), .cvi .i64 (.t 19), none, [], false⟩,
       ⟨(some 2), .mv (.t 20), none, [], false⟩])
     (.ret))
/-- math/bits.OnesCount64 -/
def c84 : CF where
  np := 1
  nt := 35
  res := [.t 2]
  code := .seq (.reg [
      ⟨(some 2), .mv (.k (.int .i64 0)), none, [], false⟩])
    (.seq (.reg [
       ⟨(some 3), .mv (.t 0), none, [], false⟩,
       ⟨(some 4), .bin .shr (.t 3) (.k (.int .u64 1)), none, [], false⟩,
       ⟨(some 5), .bin .and (.t 4) (.k (.int .u64 6148914691236517205)), none, [], false⟩,
       ⟨(some 6), .mv (.t 0), none, [], false⟩,
       ⟨(some 7), .bin .and (.t 6) (.k (.int .u64 6148914691236517205)), none, [], false⟩,
       ⟨(some 8), .bin .add (.t 5) (.t 7), none, [], false⟩,
       ⟨(some 0), .mv (.t 8), none, [], false⟩])
     (.seq (.reg [
        ⟨(some 9), .mv (.t 0), none, [], false⟩,
        ⟨(some 10), .bin .shr (.t 9) (.k (.int .u64 2)), none, [], false⟩,
        ⟨(some 11), .bin .and (.t 10) (.k (.int .u64 3689348814741910323)), none, [], false⟩,
        ⟨(some 12), .mv (.t 0), none, [], false⟩,
        ⟨(some 13), .bin .and (.t 12) (.k (.int .u64 3689348814741910323)), none, [], false⟩,
        ⟨(some 14), .bin .add (.t 11) (.t 13), none, [], false⟩,
        ⟨(some 0), .mv (.t 14), none, [], false⟩])
      (.seq (.reg [
         ⟨(some 15), .mv (.t 0), none, [], false⟩,
         ⟨(some 16), .bin .shr (.t 15) (.k (.int .u64 4)), none, [], false⟩,
         ⟨(some 17), .mv (.t 0), none, [], false⟩,
         ⟨(some 18), .bin .add (.t 16) (.t 17), none, [], false⟩,
         ⟨(some 19), .bin .and (.t 18) (.k (.int .u64 1085102592571150095)), none, [], false⟩,
         ⟨(some 0), .mv (.t 19), none, [], false⟩])
       (.seq (.reg [
          ⟨(some 20), .mv (.t 0), none, [], false⟩,
          ⟨(some 21), .mv (.t 0), none, [], false⟩,
          ⟨(some 22), .bin .shr (.t 21) (.k (.int .u64 8)), none, [], false⟩,
          ⟨(some 23), .bin .add (.t 20) (.t 22), none, [], false⟩,
          ⟨(some 0), .mv (.t 23), none, [], false⟩])
        (.seq (.reg [
           ⟨(some 24), .mv (.t 0), none, [], false⟩,
           ⟨(some 25), .mv (.t 0), none, [], false⟩,
           ⟨(some 26), .bin .shr (.t 25) (.k (.int .u64 16)), none, [], false⟩,
           ⟨(some 27), .bin .add (.t 24) (.t 26), none, [], false⟩,
           ⟨(some 0), .mv (.t 27), none, [], false⟩])
         (.seq (.reg [
            ⟨(some 28), .mv (.t 0), none, [], false⟩,
            ⟨(some 29), .mv (.t 0), none, [], false⟩,
            ⟨(some 30), .bin .shr (.t 29) (.k (.int .u64 32)), none, [], false⟩,
            ⟨(some 31), .bin .add (.t 28) (.t 30), none, [], false⟩,
            ⟨(some 0), .mv (.t 31), none, [], false⟩])
          (.seq (.reg [
             ⟨(some 32), .mv (.t 0), none, [], false⟩,
             ⟨(some 33), .cvi .i64 (.t 32), none, [], false⟩,
             ⟨(some 34), .bin .and (.t 33) (.k (.int .i64 127)), none, [], false⟩,
             ⟨(some 2), .mv (.t 34), none, [], false⟩])
           (.ret))))))))
/-- math/bits.OnesCount -/
def c62 : CF where
  np := 1
  nt := 8
  res := [.t 2]
  code := .seq (.reg [
      ⟨(some 2), .mv (.k (.int .i64 0)), none, [], false⟩])
    (.seq (.cond (.k (.bool false)) (.seq (.reg [
         ⟨(some 3), .mv (.t 0), none, [], false⟩,
         ⟨(some 4), .cvi .u32 (.t 3), none, [], false⟩,
         ⟨(some 5), .call (.k (.fn 83 [])) [(.t 4)], none, [], false⟩,
         ⟨(some 2), .mv (.t 5), none, [], false⟩])
       (.ret))
      (.skip))
     (.seq (.reg [
        ⟨(some 6), .mv (.t 0), none, [], false⟩,
        ⟨(some 7), .call (.k (.fn 84 [])) [(.t 6)], none, [], false⟩,
        ⟨(some 2), .mv (.t 7), none, [], false⟩])
      (.ret)))
/-- skyway/begin.soon -/
def c63 : CF where
  np := 3
  nt := 31
  res := [.t 6]
  code := .seq (.reg [
      ⟨(some 6), .mv (.k (.bool false)), none, [], false⟩])
    (.seq (.seq (.reg [
        ⟨(some 7), .mv (.k (.int .i64 1)), none, [], false⟩])
      (.blk 0 (.loop (.seq (.seq (.reg [
            ⟨(some 9), .mv (.t 7), none, [], false⟩,
            ⟨(some 10), .mv (.t 2), none, [], false⟩,
            ⟨(some 11), .bin .lss (.t 9) (.t 10), none, [], false⟩])
          (.cond (.t 11) (.skip)
           (.exit 0)))
         (.seq (.blk 1 (.seq (.reg [
              ⟨(some 14), .mv (.t 0), none, [], false⟩,
              ⟨(some 15), .mv (.t 2), none, [], false⟩,
              ⟨(some 16), .mv (.t 7), none, [], false⟩,
              ⟨(some 17), .bin .sub (.t 15) (.t 16), none, [], false⟩,
              ⟨(some 18), .bin .shl (.k (.int .u64 1)) (.t 17), none, [], false⟩,
              ⟨(some 19), .bin .sub (.t 18) (.k (.int .u64 1)), none, [], false⟩,
              ⟨(some 20), .bin .and (.t 14) (.t 19), none, [], false⟩,
              ⟨(some 21), .call (.k (.fn 62 [])) [(.t 20)], none, [], false⟩,
              ⟨(some 8), .mv (.t 21), none, [], false⟩])
            (.seq (.reg [
               ⟨(some 22), .mv (.t 8), none, [], false⟩,
               ⟨(some 23), .bin .gtr (.t 22) (.k (.int .i64 0)), none, [], false⟩,
               ⟨(some 24), .mv (.t 23), none, [], false⟩,
               ⟨(some 25), .mv (.t 8), (some (24, true)), [], false⟩,
               ⟨(some 26), .mv (.t 7), (some (24, true)), [], false⟩,
               ⟨(some 27), .bin .add (.t 25) (.t 26), (some (24, true)), [], false⟩,
               ⟨(some 28), .mv (.t 1), (some (24, true)), [], false⟩,
               ⟨(some 29), .bin .geq (.t 27) (.t 28), (some (24, true)), [], false⟩,
               ⟨(some 30), .pick (.t 24) (.t 29) (.k (.bool false)), none, [], false⟩])
             (.cond (.t 30) (.seq (.reg [
                 ⟨(some 6), .mv (.k (.bool true)), none, [], false⟩])
               (.ret))
              (.skip)))))
          (.reg [
            ⟨(some 12), .mv (.t 7), none, [], false⟩,
            ⟨(some 13), .bin .add (.t 12) (.k (.int .i64 1)), none, [], false⟩,
            ⟨(some 7), .mv (.t 13), none, [], false⟩]))))))
     (.seq (.reg [
        ⟨(some 6), .mv (.k (.bool false)), none, [], false⟩])
      (.ret)))
/-- skyway/begin.Step -/
def c35 : CF where
  np := 4
  nt := 71
  res := [.cn 2 8, .t 9, .t 10]
  code := .seq (.reg [
      ⟨(some 4), .box (.t 0), none, [], false⟩,
      ⟨(some 8), .new [.int .i64 0, .int .i64 0], none, [], false⟩,
      ⟨(some 9), .mv (.k (.int .i64 0)), none, [], false⟩,
      ⟨(some 10), .mv (.k (.int .i64 0)), none, [], false⟩])
    (.seq (.seq (.reg [
        ⟨(some 15), .ldn 2 (.t 4), none, [], false⟩,
        ⟨(some 16), .call (.k (.fn 36 [])) [(.t 15)], none, [], false⟩,
        ⟨(some 11), .mv (.t 16), none, [], false⟩])
      (.seq (.reg [
         ⟨(some 17), .mv (.t 11), none, [], false⟩,
         ⟨(some 18), .bin .neq (.t 17) (.k (.int .i64 0)), none, [], false⟩])
       (.cond (.t 18) (.seq (.reg [
           ⟨(some 19), .mk [.int .i64 0, .int .i64 0] [], none, [], false⟩,
           ⟨(some 20), .mv (.t 11), none, [], false⟩,
           ⟨none, .st 2 (.t 8) (.t 19), none, [], false⟩,
           ⟨(some 9), .mv (.k (.int .i64 0)), none, [], false⟩,
           ⟨(some 10), .mv (.t 20), none, [], false⟩])
         (.ret))
        (.skip))))
     (.seq (.seq (.reg [
         ⟨(some 21), .mv (.t 2), none, [], false⟩,
         ⟨(some 22), .mv (.t 3), none, [], false⟩,
         ⟨(some 23), .call (.k (.fn 61 [])) [(.t 21), (.t 22)], none, [], false⟩,
         ⟨(some 12), .mv (.t 23), none, [], false⟩])
       (.seq (.reg [
          ⟨(some 24), .mv (.t 12), none, [], false⟩,
          ⟨(some 25), .bin .neq (.t 24) (.k (.int .i64 0)), none, [], false⟩])
        (.cond (.t 25) (.seq (.reg [
            ⟨(some 26), .mk [.int .i64 0, .int .i64 0] [], none, [], false⟩,
            ⟨(some 27), .mv (.t 12), none, [], false⟩,
            ⟨none, .st 2 (.t 8) (.t 26), none, [], false⟩,
            ⟨(some 9), .mv (.k (.int .i64 0)), none, [], false⟩,
            ⟨(some 10), .mv (.t 27), none, [], false⟩])
          (.ret))
         (.skip))))
      (.seq (.reg [
         ⟨(some 28), .fad 0 (.t 4), none, [], false⟩,
         ⟨(some 29), .ld1 (.t 28), none, [], false⟩,
         ⟨(some 30), .bin .shl (.t 29) (.k (.int .u64 1)), none, [], false⟩,
         ⟨(some 31), .bin .and (.t 30) (.k (.int .i64 65535)), none, [], false⟩,
         ⟨(some 32), .fad 0 (.t 4), none, [], false⟩,
         ⟨none, .st 1 (.t 32) (.t 31), none, [], false⟩])
       (.seq (.seq (.reg [
           ⟨(some 33), .mv (.t 1), none, [], false⟩])
         (.cond (.t 33) (.reg [
            ⟨(some 34), .fad 0 (.t 4), none, [], false⟩,
            ⟨(some 35), .ld1 (.t 34), none, [], false⟩,
            ⟨(some 36), .bin .or (.t 35) (.k (.int .i64 1)), none, [], false⟩,
            ⟨(some 37), .fad 0 (.t 4), none, [], false⟩,
            ⟨none, .st 1 (.t 37) (.t 36), none, [], false⟩])
          (.skip)))
        (.seq (.reg [
           ⟨(some 38), .fad 1 (.t 4), none, [], false⟩,
           ⟨(some 39), .ld1 (.t 38), none, [], false⟩,
           ⟨(some 40), .bin .add (.t 39) (.k (.int .i64 1)), none, [], false⟩,
           ⟨(some 41), .mnx false (.t 40) [(.k (.int .i64 16))], none, [], false⟩,
           ⟨(some 42), .fad 1 (.t 4), none, [], false⟩,
           ⟨none, .st 1 (.t 42) (.t 41), none, [], false⟩])
         (.seq (.reg [
            ⟨(some 43), .fad 0 (.t 4), none, [], false⟩,
            ⟨(some 44), .ld1 (.t 43), none, [], false⟩,
            ⟨(some 45), .mv (.t 3), none, [], false⟩,
            ⟨(some 46), .bin .shl (.k (.int .i64 1)) (.t 45), none, [], false⟩,
            ⟨(some 47), .bin .sub (.t 46) (.k (.int .i64 1)), none, [], false⟩,
            ⟨(some 48), .bin .and (.t 44) (.t 47), none, [], false⟩,
            ⟨(some 49), .cvi .u64 (.t 48), none, [], false⟩,
            ⟨(some 13), .mv (.t 49), none, [], false⟩])
          (.seq (.reg [
             ⟨(some 50), .mv (.t 13), none, [], false⟩,
             ⟨(some 51), .call (.k (.fn 62 [])) [(.t 50)], none, [], false⟩,
             ⟨(some 14), .mv (.t 51), none, [], false⟩])
           (.seq (.blk 0 (.seq (.reg [
                ⟨(some 53), .mv (.t 14), none, [], false⟩,
                ⟨(some 54), .mv (.t 2), none, [], false⟩,
                ⟨(some 55), .bin .geq (.t 53) (.t 54), none, [], false⟩,
                ⟨(some 52), .mv (.t 55), none, [], false⟩])
              (.cond (.t 52) (.seq (.reg [
                  ⟨(some 56), .ldn 2 (.t 4), none, [], false⟩,
                  ⟨none, .st 2 (.t 8) (.t 56), none, [], false⟩,
                  ⟨(some 9), .mv (.k (.int .i64 1)), none, [], false⟩,
                  ⟨(some 10), .mv (.k (.int .i64 0)), none, [], false⟩])
                (.ret))
               (.seq (.reg [
                  ⟨(some 58), .fad 1 (.t 4), none, [], false⟩,
                  ⟨(some 59), .ld1 (.t 58), none, [], false⟩,
                  ⟨(some 60), .mv (.t 3), none, [], false⟩,
                  ⟨(some 61), .bin .geq (.t 59) (.t 60), none, [], false⟩,
                  ⟨(some 62), .mv (.t 61), none, [], false⟩,
                  ⟨(some 63), .mv (.t 13), (some (62, true)), [], false⟩,
                  ⟨(some 64), .mv (.t 2), (some (62, true)), [], false⟩,
                  ⟨(some 65), .mv (.t 3), (some (62, true)), [], false⟩,
                  ⟨(some 66), .call (.k (.fn 63 [])) [(.t 63), (.t 64), (.t 65)], (some (62, true)), [], false⟩,
                  ⟨(some 67), .un .not (.t 66), (some (62, true)), [], false⟩,
                  ⟨(some 68), .pick (.t 62) (.t 67) (.k (.bool false)), none, [], false⟩,
                  ⟨(some 57), .mv (.t 68), none, [], false⟩])
                (.cond (.t 57) (.seq (.reg [
                    ⟨(some 69), .ldn 2 (.t 4), none, [], false⟩,
                    ⟨none, .st 2 (.t 8) (.t 69), none, [], false⟩,
                    ⟨(some 9), .mv (.k (.int .i64 2)), none, [], false⟩,
                    ⟨(some 10), .mv (.k (.int .i64 0)), none, [], false⟩])
                  (.ret))
                 (.skip))))))
            (.seq (.reg [
               ⟨(some 70), .ldn 2 (.t 4), none, [], false⟩,
               ⟨none, .st 2 (.t 8) (.t 70), none, [], false⟩,
               ⟨(some 9), .mv (.k (.int .i64 0)), none, [], false⟩,
               ⟨(some 10), .mv (.k (.int .i64 0)), none, [], false⟩])
             (.ret))))))))))
/-- skyway/skywaykeep2.BeginRemembers -/
def c12 : CF where
  np := 1
  nt := 76
  res := [.t 2]
  code := .seq (.reg [
      ⟨(some 2), .mv (.k (.bool false)), none, [], false⟩])
    (.seq (.reg [
       ⟨(some 3), .new [.int .i64 0, .int .i64 0], none, [], false⟩])
     (.seq (.reg [
        ⟨(some 4), .mv (.k (.int .i64 0)), none, [], false⟩])
      (.seq (.seq (.reg [
          ⟨(some 13), .mv (.t 0), none, [], false⟩,
          ⟨(some 14), .mv (.t 0), none, [], false⟩,
          ⟨(some 15), .lenv false (.t 14), none, [], false⟩,
          ⟨(some 16), .mnx false (.t 15) [(.k (.int .i64 40))], none, [], false⟩,
          ⟨(some 17), .slc 1 (.t 13) none (some (.t 16)), none, [], false⟩,
          ⟨(some 18), .lenv false (.t 17), none, [], false⟩,
          ⟨(some 19), .mv (.k (.int .i64 0)), none, [], false⟩])
        (.blk 0 (.loop (.seq (.reg [
             ⟨(some 20), .bin .lss (.t 19) (.t 18), none, [], false⟩])
           (.seq (.cond (.t 20) (.skip)
             (.exit 0))
            (.seq (.blk 1 (.seq (.reg [
                 ⟨(some 21), .mv (.t 19), none, [], false⟩,
                 ⟨(some 22), .iad 1 (.t 17) (.t 19), none, [], false⟩,
                 ⟨(some 23), .ld1 (.t 22), none, [], false⟩,
                 ⟨(some 5), .mv (.t 21), none, [], false⟩,
                 ⟨(some 6), .mv (.t 23), none, [], false⟩])
               (.seq (.reg [
                  ⟨(some 25), .ldn 2 (.t 3), none, [], false⟩,
                  ⟨(some 26), .mv (.t 6), none, [], false⟩,
                  ⟨(some 27), .call (.k (.fn 35 [])) [(.t 25), (.t 26), (.k (.int .i64 16)), (.k (.int .i64 16))], none, [], false⟩,
                  ⟨(some 24), .mv (.t 27), none, [], false⟩,
                  ⟨(some 28), .ext (.t 24) 0, none, [], false⟩,
                  ⟨(some 29), .ext (.t 24) 1, none, [], false⟩,
                  ⟨(some 30), .ext (.t 24) 2, none, [], false⟩,
                  ⟨(some 7), .new [.int .i64 0, .int .i64 0], none, [], false⟩,
                  ⟨none, .st 2 (.t 7) (.t 28), none, [], false⟩,
                  ⟨(some 8), .mv (.t 29), none, [], false⟩,
                  ⟨(some 9), .mv (.t 30), none, [], false⟩])
                (.seq (.seq (.reg [
                    ⟨(some 31), .mv (.t 9), none, [], false⟩,
                    ⟨(some 32), .bin .neq (.t 31) (.k (.int .i64 0)), none, [], false⟩])
                  (.cond (.t 32) (.seq (.reg [
                      ⟨(some 2), .mv (.k (.bool false)), none, [], false⟩])
                    (.ret))
                   (.skip)))
                 (.seq (.reg [
                    ⟨(some 33), .ldn 2 (.t 7), none, [], false⟩,
                    ⟨none, .st 2 (.t 3) (.t 33), none, [], false⟩])
                  (.seq (.reg [
                     ⟨(some 34), .mv (.t 4), none, [], false⟩,
                     ⟨(some 35), .bin .shl (.t 34) (.k (.int .u64 1)), none, [], false⟩,
                     ⟨(some 36), .bin .and (.t 35) (.k (.int .i64 65535)), none, [], false⟩,
                     ⟨(some 4), .mv (.t 36), none, [], false⟩])
                   (.seq (.seq (.reg [
                       ⟨(some 37), .mv (.t 6), none, [], false⟩])
                     (.cond (.t 37) (.reg [
                        ⟨(some 38), .mv (.t 4), none, [], false⟩,
                        ⟨(some 39), .bin .or (.t 38) (.k (.int .i64 1)), none, [], false⟩,
                        ⟨(some 4), .mv (.t 39), none, [], false⟩])
                      (.skip)))
                    (.seq (.reg [
                       ⟨(some 40), .fad 0 (.t 3), none, [], false⟩,
                       ⟨(some 41), .ld1 (.t 40), none, [], false⟩,
                       ⟨(some 42), .mv (.t 4), none, [], false⟩,
                       ⟨(some 43), .bin .neq (.t 41) (.t 42), none, [], false⟩,
                       ⟨(some 44), .mv (.t 43), none, [], false⟩,
                       ⟨(some 45), .fad 1 (.t 3), (some (44, false)), [], false⟩,
                       ⟨(some 46), .ld1 (.t 45), (some (44, false)), [], false⟩,
                       ⟨(some 47), .mv (.t 5), (some (44, false)), [], false⟩,
                       ⟨(some 48), .bin .add (.t 47) (.k (.int .i64 1)), (some (44, false)), [], false⟩,
                       ⟨(some 49), .mnx false (.t 48) [(.k (.int .i64 16))], (some (44, false)), [], false⟩,
                       ⟨(some 50), .bin .neq (.t 46) (.t 49), (some (44, false)), [], false⟩,
                       ⟨(some 51), .pick (.t 44) (.k (.bool true)) (.t 50), none, [], false⟩,
                       ⟨(some 52), .mv (.t 51), none, [], false⟩,
                       ⟨(some 53), .ldn 2 (.t 3), (some (52, false)), [], false⟩,
                       ⟨(some 54), .call (.k (.fn 36 [])) [(.t 53)], (some (52, false)), [], false⟩,
                       ⟨(some 55), .bin .neq (.t 54) (.k (.int .i64 0)), (some (52, false)), [], false⟩,
                       ⟨(some 56), .pick (.t 52) (.k (.bool true)) (.t 55), none, [], false⟩])
                     (.cond (.t 56) (.seq (.reg [
                         ⟨(some 2), .mv (.k (.bool false)), none, [], false⟩])
                       (.ret))
                      (.skip))))))))))
             (.reg [
               ⟨(some 57), .bin .add (.t 19) (.k (.int .i64 1)), none, [], false⟩,
               ⟨(some 19), .mv (.t 57), none, [], false⟩])))))))
       (.seq (.reg [
          ⟨(some 59), .mk [.int .i64 0, .int .i64 0] [], none, [], false⟩,
          ⟨(some 60), .call (.k (.fn 35 [])) [(.t 59), (.k (.bool true)), (.k (.int .i64 16)), (.k (.int .i64 16))], none, [], false⟩,
          ⟨(some 58), .mv (.t 60), none, [], false⟩,
          ⟨(some 61), .ext (.t 58) 0, none, [], false⟩,
          ⟨(some 62), .ext (.t 58) 1, none, [], false⟩,
          ⟨(some 63), .ext (.t 58) 2, none, [], false⟩,
          ⟨(some 10), .new [.int .i64 0, .int .i64 0], none, [], false⟩,
          ⟨none, .st 2 (.t 10) (.t 61), none, [], false⟩,
          ⟨(some 11), .mv (.t 62), none, [], false⟩,
          ⟨(some 12), .mv (.t 63), none, [], false⟩])
        (.seq (.reg [
           ⟨(some 64), .mv (.t 12), none, [], false⟩,
           ⟨(some 65), .bin .eql (.t 64) (.k (.int .i64 0)), none, [], false⟩,
           ⟨(some 66), .mv (.t 65), none, [], false⟩,
           ⟨(some 67), .fad 0 (.t 10), (some (66, true)), [], false⟩,
           ⟨(some 68), .ld1 (.t 67), (some (66, true)), [], false⟩,
           ⟨(some 69), .bin .eql (.t 68) (.k (.int .i64 1)), (some (66, true)), [], false⟩,
           ⟨(some 70), .pick (.t 66) (.t 69) (.k (.bool false)), none, [], false⟩,
           ⟨(some 71), .mv (.t 70), none, [], false⟩,
           ⟨(some 72), .fad 1 (.t 10), (some (71, true)), [], false⟩,
           ⟨(some 73), .ld1 (.t 72), (some (71, true)), [], false⟩,
           ⟨(some 74), .bin .eql (.t 73) (.k (.int .i64 1)), (some (71, true)), [], false⟩,
           ⟨(some 75), .pick (.t 71) (.t 74) (.k (.bool false)), none, [], false⟩,
           ⟨(some 2), .mv (.t 75), none, [], false⟩])
         (.ret))))))
/-- skyway/skywaylaw1.node -/
def c64 : CF where
  np := 6
  nt := 22
  res := [.cn 6 12]
  code := .seq (.reg [
      ⟨(some 12), .new [.int .i64 0, .int .i64 0, .int .i64 0, .int .i64 0, .int .i64 0, .int .i64 0], none, [], false⟩])
    (.seq (.reg [
       ⟨(some 13), .mv (.t 0), none, [], false⟩,
       ⟨(some 14), .mv (.t 1), none, [], false⟩,
       ⟨(some 15), .mv (.t 2), none, [], false⟩,
       ⟨(some 16), .mk [.int .i64 0, .int .i64 0] [(0, 1, (.t 14)), (1, 1, (.t 15))], none, [], false⟩,
       ⟨(some 17), .mv (.t 3), none, [], false⟩,
       ⟨(some 18), .mk [.int .i64 0, .int .i64 0, .int .i64 0, .int .i64 0] [(0, 1, (.t 13)), (1, 2, (.t 16)), (3, 1, (.t 17))], none, [], false⟩,
       ⟨(some 19), .mv (.t 4), none, [], false⟩,
       ⟨(some 20), .mv (.t 5), none, [], false⟩,
       ⟨(some 21), .mk [.int .i64 0, .int .i64 0, .int .i64 0, .int .i64 0, .int .i64 0, .int .i64 0] [(0, 4, (.t 18)), (4, 1, (.t 19)), (5, 1, (.t 20))], none, [], false⟩,
       ⟨none, .st 6 (.t 12) (.t 21), none, [], false⟩])
     (.ret))
/-- skyway/plane.Check -/
def c66 : CF where
  np := 1
  nt := 21
  res := [.t 2]
  code := .seq (.reg [
      ⟨(some 1), .box (.t 0), none, [], false⟩,
      ⟨(some 2), .mv (.k (.int .i64 0)), none, [], false⟩])
    (.seq (.seq (.reg [
        ⟨(some 3), .fad 0 (.t 1), none, [], false⟩,
        ⟨(some 4), .ld1 (.t 3), none, [], false⟩,
        ⟨(some 5), .bin .lss (.t 4) (.k (.int .i64 (-1000000))), none, [], false⟩,
        ⟨(some 6), .mv (.t 5), none, [], false⟩,
        ⟨(some 7), .fad 0 (.t 1), (some (6, false)), [], false⟩,
        ⟨(some 8), .ld1 (.t 7), (some (6, false)), [], false⟩,
        ⟨(some 9), .bin .gtr (.t 8) (.k (.int .i64 1000000)), (some (6, false)), [], false⟩,
        ⟨(some 10), .pick (.t 6) (.k (.bool true)) (.t 9), none, [], false⟩,
        ⟨(some 11), .mv (.t 10), none, [], false⟩,
        ⟨(some 12), .fad 1 (.t 1), (some (11, false)), [], false⟩,
        ⟨(some 13), .ld1 (.t 12), (some (11, false)), [], false⟩,
        ⟨(some 14), .bin .lss (.t 13) (.k (.int .i64 (-1000000))), (some (11, false)), [], false⟩,
        ⟨(some 15), .pick (.t 11) (.k (.bool true)) (.t 14), none, [], false⟩,
        ⟨(some 16), .mv (.t 15), none, [], false⟩,
        ⟨(some 17), .fad 1 (.t 1), (some (16, false)), [], false⟩,
        ⟨(some 18), .ld1 (.t 17), (some (16, false)), [], false⟩,
        ⟨(some 19), .bin .gtr (.t 18) (.k (.int .i64 1000000)), (some (16, false)), [], false⟩,
        ⟨(some 20), .pick (.t 16) (.k (.bool true)) (.t 19), none, [], false⟩])
      (.cond (.t 20) (.seq (.reg [
          ⟨(some 2), .mv (.k (.int .i64 4)), none, [], false⟩])
        (.ret))
       (.skip)))
     (.seq (.reg [
        ⟨(some 2), .mv (.k (.int .i64 0)), none, [], false⟩])
      (.ret)))
/-- skyway/tube.Check -/
def c39 : CF where
  np := 1
  nt := 86
  res := [.t 2]
  code := .seq (.reg [
      ⟨(some 2), .mv (.k (.int .i64 0)), none, [], false⟩])
    (.seq (.blk 0 (.seq (.reg [
         ⟨(some 7), .mv (.t 0), none, [], false⟩,
         ⟨(some 8), .lenv false (.t 7), none, [], false⟩,
         ⟨(some 9), .bin .gtr (.t 8) (.k (.int .i64 64)), none, [], false⟩,
         ⟨(some 6), .mv (.t 9), none, [], false⟩])
       (.cond (.t 6) (.seq (.reg [
           ⟨(some 2), .mv (.k (.int .i64 2)), none, [], false⟩])
         (.ret))
        (.seq (.reg [
           ⟨(some 11), .mv (.t 0), none, [], false⟩,
           ⟨(some 12), .lenv false (.t 11), none, [], false⟩,
           ⟨(some 13), .bin .eql (.t 12) (.k (.int .i64 0)), none, [], false⟩,
           ⟨(some 10), .mv (.t 13), none, [], false⟩])
         (.cond (.t 10) (.seq (.reg [
             ⟨(some 2), .mv (.k (.int .i64 3)), none, [], false⟩])
           (.ret))
          (.skip))))))
     (.seq (.seq (.reg [
         ⟨(some 14), .mv (.t 0), none, [], false⟩,
         ⟨(some 15), .lenv false (.t 14), none, [], false⟩,
         ⟨(some 16), .mv (.k (.int .i64 0)), none, [], false⟩])
       (.blk 1 (.loop (.seq (.reg [
            ⟨(some 17), .bin .lss (.t 16) (.t 15), none, [], false⟩])
          (.seq (.cond (.t 17) (.skip)
            (.exit 1))
           (.seq (.blk 2 (.seq (.reg [
                ⟨(some 18), .mv (.t 16), none, [], false⟩,
                ⟨(some 19), .iad 6 (.t 14) (.t 16), none, [], false⟩,
                ⟨(some 20), .ldn 6 (.t 19), none, [], false⟩,
                ⟨(some 4), .new [.int .i64 0, .int .i64 0, .int .i64 0, .int .i64 0, .int .i64 0, .int .i64 0], none, [], false⟩,
                ⟨(some 3), .mv (.t 18), none, [], false⟩,
                ⟨none, .st 6 (.t 4) (.t 20), none, [], false⟩])
              (.seq (.seq (.reg [
                  ⟨(some 21), .fad 0 (.t 4), none, [], false⟩,
                  ⟨(some 22), .fad 0 (.t 21), none, [], false⟩,
                  ⟨(some 23), .ld1 (.t 22), none, [], false⟩,
                  ⟨(some 24), .bin .lss (.t 23) (.k (.int .i64 0)), none, [], false⟩,
                  ⟨(some 25), .mv (.t 24), none, [], false⟩,
                  ⟨(some 26), .fad 0 (.t 4), (some (25, false)), [], false⟩,
                  ⟨(some 27), .fad 0 (.t 26), (some (25, false)), [], false⟩,
                  ⟨(some 28), .ld1 (.t 27), (some (25, false)), [], false⟩,
                  ⟨(some 29), .bin .gtr (.t 28) (.k (.int .i64 200000)), (some (25, false)), [], false⟩,
                  ⟨(some 30), .pick (.t 25) (.k (.bool true)) (.t 29), none, [], false⟩,
                  ⟨(some 31), .mv (.t 30), none, [], false⟩,
                  ⟨(some 32), .mv (.t 3), (some (31, false)), [], false⟩,
                  ⟨(some 33), .bin .gtr (.t 32) (.k (.int .i64 0)), (some (31, false)), [], false⟩,
                  ⟨(some 34), .mv (.t 33), (some (31, false)), [], false⟩,
                  ⟨(some 35), .fad 0 (.t 4), (some (34, true)), [], false⟩,
                  ⟨(some 36), .fad 0 (.t 35), (some (34, true)), [], false⟩,
                  ⟨(some 37), .ld1 (.t 36), (some (34, true)), [], false⟩,
                  ⟨(some 38), .mv (.t 0), (some (34, true)), [], false⟩,
                  ⟨(some 39), .mv (.t 3), (some (34, true)), [], false⟩,
                  ⟨(some 40), .bin .sub (.t 39) (.k (.int .i64 1)), (some (34, true)), [], false⟩,
                  ⟨(some 41), .iad 6 (.t 38) (.t 40), (some (34, true)), [], false⟩,
                  ⟨(some 42), .fad 0 (.t 41), (some (34, true)), [], false⟩,
                  ⟨(some 43), .fad 0 (.t 42), (some (34, true)), [], false⟩,
                  ⟨(some 44), .ld1 (.t 43), (some (34, true)), [], false⟩,
                  ⟨(some 45), .bin .leq (.t 37) (.t 44), (some (34, true)), [], false⟩,
                  ⟨(some 46), .pick (.t 34) (.t 45) (.k (.bool false)), (some (31, false)), [], false⟩,
                  ⟨(some 47), .pick (.t 31) (.k (.bool true)) (.t 46), none, [], false⟩])
                (.cond (.t 47) (.seq (.reg [
                    ⟨(some 2), .mv (.k (.int .i64 12)), none, [], false⟩])
                  (.ret))
                 (.skip)))
               (.seq (.seq (.reg [
                   ⟨(some 48), .fad 0 (.t 4), none, [], false⟩,
                   ⟨(some 49), .fad 1 (.t 48), none, [], false⟩,
                   ⟨(some 50), .ldn 2 (.t 49), none, [], false⟩,
                   ⟨(some 51), .call (.k (.fn 66 [])) [(.t 50)], none, [], false⟩,
                   ⟨(some 5), .mv (.t 51), none, [], false⟩])
                 (.seq (.reg [
                    ⟨(some 52), .mv (.t 5), none, [], false⟩,
                    ⟨(some 53), .bin .neq (.t 52) (.k (.int .i64 0)), none, [], false⟩])
                  (.cond (.t 53) (.seq (.reg [
                      ⟨(some 54), .mv (.t 5), none, [], false⟩,
                      ⟨(some 2), .mv (.t 54), none, [], false⟩])
                    (.ret))
                   (.skip))))
                (.seq (.reg [
                   ⟨(some 55), .fad 0 (.t 4), none, [], false⟩,
                   ⟨(some 56), .fad 3 (.t 55), none, [], false⟩,
                   ⟨(some 57), .ld1 (.t 56), none, [], false⟩,
                   ⟨(some 58), .bin .lss (.t 57) (.k (.int .i64 0)), none, [], false⟩,
                   ⟨(some 59), .mv (.t 58), none, [], false⟩,
                   ⟨(some 60), .fad 0 (.t 4), (some (59, false)), [], false⟩,
                   ⟨(some 61), .fad 3 (.t 60), (some (59, false)), [], false⟩,
                   ⟨(some 62), .ld1 (.t 61), (some (59, false)), [], false⟩,
                   ⟨(some 63), .bin .gtr (.t 62) (.k (.int .i64 60000)), (some (59, false)), [], false⟩,
                   ⟨(some 64), .pick (.t 59) (.k (.bool true)) (.t 63), none, [], false⟩,
                   ⟨(some 65), .mv (.t 64), none, [], false⟩,
                   ⟨(some 66), .fad 4 (.t 4), (some (65, false)), [], false⟩,
                   ⟨(some 67), .ld1 (.t 66), (some (65, false)), [], false⟩,
                   ⟨(some 68), .bin .lss (.t 67) (.k (.int .i64 0)), (some (65, false)), [], false⟩,
                   ⟨(some 69), .pick (.t 65) (.k (.bool true)) (.t 68), none, [], false⟩,
                   ⟨(some 70), .mv (.t 69), none, [], false⟩,
                   ⟨(some 71), .fad 4 (.t 4), (some (70, false)), [], false⟩,
                   ⟨(some 72), .ld1 (.t 71), (some (70, false)), [], false⟩,
                   ⟨(some 73), .bin .gtr (.t 72) (.k (.int .i64 1000000)), (some (70, false)), [], false⟩,
                   ⟨(some 74), .pick (.t 70) (.k (.bool true)) (.t 73), none, [], false⟩,
                   ⟨(some 75), .mv (.t 74), none, [], false⟩,
                   ⟨(some 76), .fad 5 (.t 4), (some (75, false)), [], false⟩,
                   ⟨(some 77), .ld1 (.t 76), (some (75, false)), [], false⟩,
                   ⟨(some 78), .bin .lss (.t 77) (.k (.int .i64 0)), (some (75, false)), [], false⟩,
                   ⟨(some 79), .pick (.t 75) (.k (.bool true)) (.t 78), none, [], false⟩,
                   ⟨(some 80), .mv (.t 79), none, [], false⟩,
                   ⟨(some 81), .fad 5 (.t 4), (some (80, false)), [], false⟩,
                   ⟨(some 82), .ld1 (.t 81), (some (80, false)), [], false⟩,
                   ⟨(some 83), .bin .gtr (.t 82) (.k (.int .i64 60000)), (some (80, false)), [], false⟩,
                   ⟨(some 84), .pick (.t 80) (.k (.bool true)) (.t 83), none, [], false⟩])
                 (.cond (.t 84) (.seq (.reg [
                     ⟨(some 2), .mv (.k (.int .i64 4)), none, [], false⟩])
                   (.ret))
                  (.skip)))))))
            (.reg [
              ⟨(some 85), .bin .add (.t 16) (.k (.int .i64 1)), none, [], false⟩,
              ⟨(some 16), .mv (.t 85), none, [], false⟩])))))))
      (.seq (.reg [
         ⟨(some 2), .mv (.k (.int .i64 0)), none, [], false⟩])
       (.ret))))
/-- skyway/plane.Toward -/
def c85 : CF where
  np := 4
  nt := 74
  res := [.cn 2 8, .t 9]
  code := .seq (.reg [
      ⟨(some 4), .box (.t 0), none, [], false⟩,
      ⟨(some 5), .box (.t 1), none, [], false⟩,
      ⟨(some 8), .new [.int .i64 0, .int .i64 0], none, [], false⟩,
      ⟨(some 9), .mv (.k (.int .i64 0)), none, [], false⟩])
    (.seq (.blk 0 (.seq (.reg [
         ⟨(some 15), .mv (.t 3), none, [], false⟩,
         ⟨(some 16), .bin .leq (.t 15) (.k (.int .i64 0)), none, [], false⟩,
         ⟨(some 14), .mv (.t 16), none, [], false⟩])
       (.cond (.t 14) (.seq (.reg [
           ⟨(some 17), .mk [.int .i64 0, .int .i64 0] [], none, [], false⟩,
           ⟨none, .st 2 (.t 8) (.t 17), none, [], false⟩,
           ⟨(some 9), .mv (.k (.int .i64 10)), none, [], false⟩])
         (.ret))
        (.seq (.reg [
           ⟨(some 19), .mv (.t 3), none, [], false⟩,
           ⟨(some 20), .bin .gtr (.t 19) (.k (.int .i64 200000)), none, [], false⟩,
           ⟨(some 21), .mv (.t 20), none, [], false⟩,
           ⟨(some 22), .mv (.t 2), (some (21, false)), [], false⟩,
           ⟨(some 23), .bin .lss (.t 22) (.k (.int .i64 0)), (some (21, false)), [], false⟩,
           ⟨(some 24), .pick (.t 21) (.k (.bool true)) (.t 23), none, [], false⟩,
           ⟨(some 25), .mv (.t 24), none, [], false⟩,
           ⟨(some 26), .mv (.t 2), (some (25, false)), [], false⟩,
           ⟨(some 27), .mv (.t 3), (some (25, false)), [], false⟩,
           ⟨(some 28), .bin .gtr (.t 26) (.t 27), (some (25, false)), [], false⟩,
           ⟨(some 29), .pick (.t 25) (.k (.bool true)) (.t 28), none, [], false⟩,
           ⟨(some 30), .mv (.t 29), none, [], false⟩,
           ⟨(some 31), .ldn 2 (.t 4), (some (30, false)), [], false⟩,
           ⟨(some 32), .call (.k (.fn 66 [])) [(.t 31)], (some (30, false)), [], false⟩,
           ⟨(some 33), .bin .neq (.t 32) (.k (.int .i64 0)), (some (30, false)), [], false⟩,
           ⟨(some 34), .pick (.t 30) (.k (.bool true)) (.t 33), none, [], false⟩,
           ⟨(some 35), .mv (.t 34), none, [], false⟩,
           ⟨(some 36), .ldn 2 (.t 5), (some (35, false)), [], false⟩,
           ⟨(some 37), .call (.k (.fn 66 [])) [(.t 36)], (some (35, false)), [], false⟩,
           ⟨(some 38), .bin .neq (.t 37) (.k (.int .i64 0)), (some (35, false)), [], false⟩,
           ⟨(some 39), .pick (.t 35) (.k (.bool true)) (.t 38), none, [], false⟩,
           ⟨(some 18), .mv (.t 39), none, [], false⟩])
         (.cond (.t 18) (.seq (.reg [
             ⟨(some 40), .mk [.int .i64 0, .int .i64 0] [], none, [], false⟩,
             ⟨none, .st 2 (.t 8) (.t 40), none, [], false⟩,
             ⟨(some 9), .mv (.k (.int .i64 4)), none, [], false⟩])
           (.ret))
          (.skip))))))
     (.seq (.reg [
        ⟨(some 42), .fad 0 (.t 5), none, [], false⟩,
        ⟨(some 43), .ld1 (.t 42), none, [], false⟩,
        ⟨(some 44), .fad 0 (.t 4), none, [], false⟩,
        ⟨(some 45), .ld1 (.t 44), none, [], false⟩,
        ⟨(some 46), .bin .sub (.t 43) (.t 45), none, [], false⟩,
        ⟨(some 47), .mv (.t 2), none, [], false⟩,
        ⟨(some 48), .bin .mul (.t 46) (.t 47), none, [], false⟩,
        ⟨(some 49), .mv (.t 3), none, [], false⟩,
        ⟨(some 50), .call (.k (.fn 53 [])) [(.t 48), (.t 49)], none, [], false⟩,
        ⟨(some 41), .mv (.t 50), none, [], false⟩,
        ⟨(some 51), .ext (.t 41) 0, none, [], false⟩,
        ⟨(some 52), .ext (.t 41) 1, none, [], false⟩,
        ⟨(some 10), .mv (.t 51), none, [], false⟩,
        ⟨(some 11), .mv (.t 52), none, [], false⟩])
      (.seq (.reg [
         ⟨(some 54), .fad 1 (.t 5), none, [], false⟩,
         ⟨(some 55), .ld1 (.t 54), none, [], false⟩,
         ⟨(some 56), .fad 1 (.t 4), none, [], false⟩,
         ⟨(some 57), .ld1 (.t 56), none, [], false⟩,
         ⟨(some 58), .bin .sub (.t 55) (.t 57), none, [], false⟩,
         ⟨(some 59), .mv (.t 2), none, [], false⟩,
         ⟨(some 60), .bin .mul (.t 58) (.t 59), none, [], false⟩,
         ⟨(some 61), .mv (.t 3), none, [], false⟩,
         ⟨(some 62), .call (.k (.fn 53 [])) [(.t 60), (.t 61)], none, [], false⟩,
         ⟨(some 53), .mv (.t 62), none, [], false⟩,
         ⟨(some 63), .ext (.t 53) 0, none, [], false⟩,
         ⟨(some 64), .ext (.t 53) 1, none, [], false⟩,
         ⟨(some 12), .mv (.t 63), none, [], false⟩,
         ⟨(some 13), .mv (.t 64), none, [], false⟩])
       (.seq (.reg [
          ⟨(some 65), .fad 0 (.t 4), none, [], false⟩,
          ⟨(some 66), .ld1 (.t 65), none, [], false⟩,
          ⟨(some 67), .mv (.t 10), none, [], false⟩,
          ⟨(some 68), .bin .add (.t 66) (.t 67), none, [], false⟩,
          ⟨(some 69), .fad 1 (.t 4), none, [], false⟩,
          ⟨(some 70), .ld1 (.t 69), none, [], false⟩,
          ⟨(some 71), .mv (.t 12), none, [], false⟩,
          ⟨(some 72), .bin .add (.t 70) (.t 71), none, [], false⟩,
          ⟨(some 73), .mk [.int .i64 0, .int .i64 0] [(0, 1, (.t 68)), (1, 1, (.t 72))], none, [], false⟩,
          ⟨none, .st 2 (.t 8) (.t 73), none, [], false⟩,
          ⟨(some 9), .mv (.k (.int .i64 0)), none, [], false⟩])
        (.ret)))))
/-- skyway/tube.between -/
def c86 : CF where
  np := 4
  nt := 24
  res := [.t 8]
  code := .seq (.reg [
      ⟨(some 8), .mv (.k (.int .i64 0)), none, [], false⟩])
    (.seq (.reg [
       ⟨(some 12), .mv (.t 1), none, [], false⟩,
       ⟨(some 13), .mv (.t 0), none, [], false⟩,
       ⟨(some 14), .bin .sub (.t 12) (.t 13), none, [], false⟩,
       ⟨(some 15), .mv (.t 2), none, [], false⟩,
       ⟨(some 16), .bin .mul (.t 14) (.t 15), none, [], false⟩,
       ⟨(some 17), .mv (.t 3), none, [], false⟩,
       ⟨(some 18), .call (.k (.fn 53 [])) [(.t 16), (.t 17)], none, [], false⟩,
       ⟨(some 11), .mv (.t 18), none, [], false⟩,
       ⟨(some 19), .ext (.t 11) 0, none, [], false⟩,
       ⟨(some 20), .ext (.t 11) 1, none, [], false⟩,
       ⟨(some 9), .mv (.t 19), none, [], false⟩,
       ⟨(some 10), .mv (.t 20), none, [], false⟩])
     (.seq (.reg [
        ⟨(some 21), .mv (.t 0), none, [], false⟩,
        ⟨(some 22), .mv (.t 9), none, [], false⟩,
        ⟨(some 23), .bin .add (.t 21) (.t 22), none, [], false⟩,
        ⟨(some 8), .mv (.t 23), none, [], false⟩])
      (.ret)))
/-- skyway/tube.above -/
def c87 : CF where
  np := 4
  nt := 24
  res := [.t 8]
  code := .seq (.reg [
      ⟨(some 8), .mv (.k (.int .i64 0)), none, [], false⟩])
    (.seq (.reg [
       ⟨(some 12), .mv (.t 1), none, [], false⟩,
       ⟨(some 13), .mv (.t 0), none, [], false⟩,
       ⟨(some 14), .bin .sub (.t 12) (.t 13), none, [], false⟩,
       ⟨(some 15), .mv (.t 2), none, [], false⟩,
       ⟨(some 16), .bin .mul (.t 14) (.t 15), none, [], false⟩,
       ⟨(some 17), .mv (.t 3), none, [], false⟩,
       ⟨(some 18), .call (.k (.fn 50 [])) [(.t 16), (.t 17)], none, [], false⟩,
       ⟨(some 11), .mv (.t 18), none, [], false⟩,
       ⟨(some 19), .ext (.t 11) 0, none, [], false⟩,
       ⟨(some 20), .ext (.t 11) 1, none, [], false⟩,
       ⟨(some 9), .mv (.t 19), none, [], false⟩,
       ⟨(some 10), .mv (.t 20), none, [], false⟩])
     (.seq (.reg [
        ⟨(some 21), .mv (.t 0), none, [], false⟩,
        ⟨(some 22), .mv (.t 9), none, [], false⟩,
        ⟨(some 23), .bin .add (.t 21) (.t 22), none, [], false⟩,
        ⟨(some 8), .mv (.t 23), none, [], false⟩])
      (.ret)))
/-- skyway/tube.at -/
def c65 : CF where
  np := 2
  nt := 117
  res := [.cn 6 4, .t 5]
  code := .seq (.reg [
      ⟨(some 4), .new [.int .i64 0, .int .i64 0, .int .i64 0, .int .i64 0, .int .i64 0, .int .i64 0], none, [], false⟩,
      ⟨(some 5), .mv (.k (.int .i64 0)), none, [], false⟩])
    (.seq (.seq (.reg [
        ⟨(some 13), .mv (.t 1), none, [], false⟩,
        ⟨(some 14), .mv (.t 0), none, [], false⟩,
        ⟨(some 15), .iad 6 (.t 14) (.k (.int .i64 0)), none, [], false⟩,
        ⟨(some 16), .fad 0 (.t 15), none, [], false⟩,
        ⟨(some 17), .fad 0 (.t 16), none, [], false⟩,
        ⟨(some 18), .ld1 (.t 17), none, [], false⟩,
        ⟨(some 19), .bin .lss (.t 13) (.t 18), none, [], false⟩,
        ⟨(some 20), .mv (.t 19), none, [], false⟩,
        ⟨(some 21), .mv (.t 1), (some (20, false)), [], false⟩,
        ⟨(some 22), .mv (.t 0), (some (20, false)), [], false⟩,
        ⟨(some 23), .mv (.t 0), (some (20, false)), [], false⟩,
        ⟨(some 24), .lenv false (.t 23), (some (20, false)), [], false⟩,
        ⟨(some 25), .bin .sub (.t 24) (.k (.int .i64 1)), (some (20, false)), [], false⟩,
        ⟨(some 26), .iad 6 (.t 22) (.t 25), (some (20, false)), [], false⟩,
        ⟨(some 27), .fad 0 (.t 26), (some (20, false)), [], false⟩,
        ⟨(some 28), .fad 0 (.t 27), (some (20, false)), [], false⟩,
        ⟨(some 29), .ld1 (.t 28), (some (20, false)), [], false⟩,
        ⟨(some 30), .bin .gtr (.t 21) (.t 29), (some (20, false)), [], false⟩,
        ⟨(some 31), .pick (.t 20) (.k (.bool true)) (.t 30), none, [], false⟩])
      (.cond (.t 31) (.seq (.reg [
          ⟨(some 32), .mk [.int .i64 0, .int .i64 0, .int .i64 0, .int .i64 0, .int .i64 0, .int .i64 0] [], none, [], false⟩,
          ⟨none, .st 6 (.t 4) (.t 32), none, [], false⟩,
          ⟨(some 5), .mv (.k (.int .i64 12)), none, [], false⟩])
        (.ret))
       (.skip)))
     (.seq (.reg [
        ⟨(some 6), .mv (.k (.int .i64 0)), none, [], false⟩])
      (.seq (.blk 0 (.loop (.seq (.seq (.reg [
             ⟨(some 33), .mv (.t 6), none, [], false⟩,
             ⟨(some 34), .bin .add (.t 33) (.k (.int .i64 1)), none, [], false⟩,
             ⟨(some 35), .mv (.t 0), none, [], false⟩,
             ⟨(some 36), .lenv false (.t 35), none, [], false⟩,
             ⟨(some 37), .bin .lss (.t 34) (.t 36), none, [], false⟩,
             ⟨(some 38), .mv (.t 37), none, [], false⟩,
             ⟨(some 39), .mv (.t 0), (some (38, true)), [], false⟩,
             ⟨(some 40), .mv (.t 6), (some (38, true)), [], false⟩,
             ⟨(some 41), .bin .add (.t 40) (.k (.int .i64 1)), (some (38, true)), [], false⟩,
             ⟨(some 42), .iad 6 (.t 39) (.t 41), (some (38, true)), [], false⟩,
             ⟨(some 43), .fad 0 (.t 42), (some (38, true)), [], false⟩,
             ⟨(some 44), .fad 0 (.t 43), (some (38, true)), [], false⟩,
             ⟨(some 45), .ld1 (.t 44), (some (38, true)), [], false⟩,
             ⟨(some 46), .mv (.t 1), (some (38, true)), [], false⟩,
             ⟨(some 47), .bin .leq (.t 45) (.t 46), (some (38, true)), [], false⟩,
             ⟨(some 48), .pick (.t 38) (.t 47) (.k (.bool false)), none, [], false⟩])
           (.cond (.t 48) (.skip)
            (.exit 0)))
          (.blk 1 (.reg [
             ⟨(some 49), .mv (.t 6), none, [], false⟩,
             ⟨(some 50), .bin .add (.t 49) (.k (.int .i64 1)), none, [], false⟩,
             ⟨(some 6), .mv (.t 50), none, [], false⟩])))))
       (.seq (.reg [
          ⟨(some 51), .mv (.t 0), none, [], false⟩,
          ⟨(some 52), .mv (.t 6), none, [], false⟩,
          ⟨(some 53), .iad 6 (.t 51) (.t 52), none, [], false⟩,
          ⟨(some 54), .ldn 6 (.t 53), none, [], false⟩,
          ⟨(some 7), .new [.int .i64 0, .int .i64 0, .int .i64 0, .int .i64 0, .int .i64 0, .int .i64 0], none, [], false⟩,
          ⟨none, .st 6 (.t 7) (.t 54), none, [], false⟩])
        (.seq (.seq (.reg [
            ⟨(some 55), .fad 0 (.t 7), none, [], false⟩,
            ⟨(some 56), .fad 0 (.t 55), none, [], false⟩,
            ⟨(some 57), .ld1 (.t 56), none, [], false⟩,
            ⟨(some 58), .mv (.t 1), none, [], false⟩,
            ⟨(some 59), .bin .eql (.t 57) (.t 58), none, [], false⟩])
          (.cond (.t 59) (.seq (.reg [
              ⟨(some 60), .ldn 6 (.t 7), none, [], false⟩,
              ⟨none, .st 6 (.t 4) (.t 60), none, [], false⟩,
              ⟨(some 5), .mv (.k (.int .i64 0)), none, [], false⟩])
            (.ret))
           (.skip)))
         (.seq (.reg [
            ⟨(some 61), .mv (.t 0), none, [], false⟩,
            ⟨(some 62), .mv (.t 6), none, [], false⟩,
            ⟨(some 63), .bin .add (.t 62) (.k (.int .i64 1)), none, [], false⟩,
            ⟨(some 64), .iad 6 (.t 61) (.t 63), none, [], false⟩,
            ⟨(some 65), .ldn 6 (.t 64), none, [], false⟩,
            ⟨(some 8), .new [.int .i64 0, .int .i64 0, .int .i64 0, .int .i64 0, .int .i64 0, .int .i64 0], none, [], false⟩,
            ⟨none, .st 6 (.t 8) (.t 65), none, [], false⟩])
          (.seq (.reg [
             ⟨(some 66), .mv (.t 1), none, [], false⟩,
             ⟨(some 67), .fad 0 (.t 7), none, [], false⟩,
             ⟨(some 68), .fad 0 (.t 67), none, [], false⟩,
             ⟨(some 69), .ld1 (.t 68), none, [], false⟩,
             ⟨(some 70), .bin .sub (.t 66) (.t 69), none, [], false⟩,
             ⟨(some 71), .fad 0 (.t 8), none, [], false⟩,
             ⟨(some 72), .fad 0 (.t 71), none, [], false⟩,
             ⟨(some 73), .ld1 (.t 72), none, [], false⟩,
             ⟨(some 74), .fad 0 (.t 7), none, [], false⟩,
             ⟨(some 75), .fad 0 (.t 74), none, [], false⟩,
             ⟨(some 76), .ld1 (.t 75), none, [], false⟩,
             ⟨(some 77), .bin .sub (.t 73) (.t 76), none, [], false⟩,
             ⟨(some 9), .mv (.t 70), none, [], false⟩,
             ⟨(some 10), .mv (.t 77), none, [], false⟩])
           (.seq (.reg [
              ⟨(some 79), .fad 0 (.t 7), none, [], false⟩,
              ⟨(some 80), .fad 1 (.t 79), none, [], false⟩,
              ⟨(some 81), .ldn 2 (.t 80), none, [], false⟩,
              ⟨(some 82), .fad 0 (.t 8), none, [], false⟩,
              ⟨(some 83), .fad 1 (.t 82), none, [], false⟩,
              ⟨(some 84), .ldn 2 (.t 83), none, [], false⟩,
              ⟨(some 85), .mv (.t 9), none, [], false⟩,
              ⟨(some 86), .mv (.t 10), none, [], false⟩,
              ⟨(some 87), .call (.k (.fn 85 [])) [(.t 81), (.t 84), (.t 85), (.t 86)], none, [], false⟩,
              ⟨(some 78), .mv (.t 87), none, [], false⟩,
              ⟨(some 88), .ext (.t 78) 0, none, [], false⟩,
              ⟨(some 89), .ext (.t 78) 1, none, [], false⟩,
              ⟨(some 11), .new [.int .i64 0, .int .i64 0], none, [], false⟩,
              ⟨none, .st 2 (.t 11) (.t 88), none, [], false⟩,
              ⟨(some 12), .mv (.t 89), none, [], false⟩])
            (.seq (.reg [
               ⟨(some 90), .mv (.t 1), none, [], false⟩,
               ⟨(some 91), .ldn 2 (.t 11), none, [], false⟩,
               ⟨(some 92), .fad 0 (.t 7), none, [], false⟩,
               ⟨(some 93), .fad 3 (.t 92), none, [], false⟩,
               ⟨(some 94), .ld1 (.t 93), none, [], false⟩,
               ⟨(some 95), .fad 0 (.t 8), none, [], false⟩,
               ⟨(some 96), .fad 3 (.t 95), none, [], false⟩,
               ⟨(some 97), .ld1 (.t 96), none, [], false⟩,
               ⟨(some 98), .mv (.t 9), none, [], false⟩,
               ⟨(some 99), .mv (.t 10), none, [], false⟩,
               ⟨(some 102), .fad 4 (.t 7), none, [], false⟩,
               ⟨(some 103), .ld1 (.t 102), none, [], false⟩,
               ⟨(some 104), .fad 4 (.t 8), none, [], false⟩,
               ⟨(some 105), .ld1 (.t 104), none, [], false⟩,
               ⟨(some 106), .mv (.t 9), none, [], false⟩,
               ⟨(some 107), .mv (.t 10), none, [], false⟩,
               ⟨(some 109), .fad 5 (.t 7), none, [], false⟩,
               ⟨(some 110), .ld1 (.t 109), none, [], false⟩,
               ⟨(some 111), .fad 5 (.t 8), none, [], false⟩,
               ⟨(some 112), .ld1 (.t 111), none, [], false⟩,
               ⟨(some 113), .mv (.t 9), none, [], false⟩,
               ⟨(some 114), .mv (.t 10), none, [], false⟩,
               ⟨(some 100), .call (.k (.fn 86 [])) [(.t 94), (.t 97), (.t 98), (.t 99)], none, [], true⟩,
               ⟨(some 101), .mk [.int .i64 0, .int .i64 0, .int .i64 0, .int .i64 0] [(0, 1, (.t 90)), (1, 2, (.t 91)), (3, 1, (.t 100))], none, [], false⟩,
               ⟨(some 108), .call (.k (.fn 87 [])) [(.t 103), (.t 105), (.t 106), (.t 107)], none, [], true⟩,
               ⟨(some 115), .call (.k (.fn 87 [])) [(.t 110), (.t 112), (.t 113), (.t 114)], none, [], true⟩,
               ⟨(some 116), .mk [.int .i64 0, .int .i64 0, .int .i64 0, .int .i64 0, .int .i64 0, .int .i64 0] [(0, 4, (.t 101)), (4, 1, (.t 108)), (5, 1, (.t 115))], none, [], false⟩,
               ⟨none, .st 6 (.t 4) (.t 116), none, [], false⟩,
               ⟨(some 5), .mv (.k (.int .i64 0)), none, [], false⟩])
             (.ret))))))))))
/-- skyway/tube.At -/
def c38 : CF where
  np := 2
  nt := 18
  res := [.cn 6 4, .t 5]
  code := .seq (.reg [
      ⟨(some 4), .new [.int .i64 0, .int .i64 0, .int .i64 0, .int .i64 0, .int .i64 0, .int .i64 0], none, [], false⟩,
      ⟨(some 5), .mv (.k (.int .i64 0)), none, [], false⟩])
    (.seq (.seq (.reg [
        ⟨(some 7), .mv (.t 0), none, [], false⟩,
        ⟨(some 8), .call (.k (.fn 39 [])) [(.t 7)], none, [], false⟩,
        ⟨(some 6), .mv (.t 8), none, [], false⟩])
      (.seq (.reg [
         ⟨(some 9), .mv (.t 6), none, [], false⟩,
         ⟨(some 10), .bin .neq (.t 9) (.k (.int .i64 0)), none, [], false⟩])
       (.cond (.t 10) (.seq (.reg [
           ⟨(some 11), .mk [.int .i64 0, .int .i64 0, .int .i64 0, .int .i64 0, .int .i64 0, .int .i64 0] [], none, [], false⟩,
           ⟨(some 12), .mv (.t 6), none, [], false⟩,
           ⟨none, .st 6 (.t 4) (.t 11), none, [], false⟩,
           ⟨(some 5), .mv (.t 12), none, [], false⟩])
         (.ret))
        (.skip))))
     (.seq (.reg [
        ⟨(some 13), .mv (.t 0), none, [], false⟩,
        ⟨(some 14), .mv (.t 1), none, [], false⟩,
        ⟨(some 15), .call (.k (.fn 65 [])) [(.t 13), (.t 14)], none, [], false⟩,
        ⟨(some 16), .ext (.t 15) 0, none, [], false⟩,
        ⟨(some 17), .ext (.t 15) 1, none, [], false⟩,
        ⟨none, .st 6 (.t 4) (.t 16), none, [], false⟩,
        ⟨(some 5), .mv (.t 17), none, [], false⟩])
      (.ret)))
/-- skyway/skywaylaw1.tubeWorks -/
def c37 : CF where
  np := 0
  nt := 21
  res := [.t 0]
  code := .seq (.reg [
      ⟨(some 0), .mv (.k (.bool false)), none, [], false⟩])
    (.seq (.reg [
       ⟨(some 4), .call (.k (.fn 64 [])) [(.k (.int .i64 0)), (.k (.int .i64 0)), (.k (.int .i64 0)), (.k (.int .i64 0)), (.k (.int .i64 10)), (.k (.int .i64 0))], none, [], false⟩,
       ⟨(some 5), .call (.k (.fn 64 [])) [(.k (.int .i64 4)), (.k (.int .i64 10)), (.k (.int .i64 0)), (.k (.int .i64 0)), (.k (.int .i64 11)), (.k (.int .i64 0))], none, [], false⟩,
       ⟨(some 6), .mks [.int .i64 0, .int .i64 0, .int .i64 0, .int .i64 0, .int .i64 0, .int .i64 0, .int .i64 0, .int .i64 0, .int .i64 0, .int .i64 0, .int .i64 0, .int .i64 0] 6 2 [(0, 6, (.t 4)), (6, 6, (.t 5))], none, [], false⟩,
       ⟨(some 7), .call (.k (.fn 38 [])) [(.t 6), (.k (.int .i64 1))], none, [], false⟩,
       ⟨(some 3), .mv (.t 7), none, [], false⟩,
       ⟨(some 8), .ext (.t 3) 0, none, [], false⟩,
       ⟨(some 9), .ext (.t 3) 1, none, [], false⟩,
       ⟨(some 1), .new [.int .i64 0, .int .i64 0, .int .i64 0, .int .i64 0, .int .i64 0, .int .i64 0], none, [], false⟩,
       ⟨none, .st 6 (.t 1) (.t 8), none, [], false⟩,
       ⟨(some 2), .mv (.t 9), none, [], false⟩])
     (.seq (.reg [
        ⟨(some 10), .mv (.t 2), none, [], false⟩,
        ⟨(some 11), .bin .eql (.t 10) (.k (.int .i64 0)), none, [], false⟩,
        ⟨(some 12), .mv (.t 11), none, [], false⟩,
        ⟨(some 13), .ldn 6 (.t 1), (some (12, true)), [], false⟩,
        ⟨(some 14), .call (.k (.fn 64 [])) [(.k (.int .i64 1)), (.k (.int .i64 2)), (.k (.int .i64 0)), (.k (.int .i64 0)), (.k (.int .i64 11)), (.k (.int .i64 0))], (some (12, true)), [], true⟩,
        ⟨(some 15), .eqs false (some [.i, .i, .i, .i, .i, .i]) (.t 13) (.t 14), (some (12, true)), [], false⟩,
        ⟨(some 16), .pick (.t 12) (.t 15) (.k (.bool false)), none, [], false⟩,
        ⟨(some 17), .mv (.t 16), none, [], false⟩,
        ⟨(some 18), .call (.k (.fn 39 [])) [(.k (.sl true 0 0 0 0 0))], (some (17, true)), [], false⟩,
        ⟨(some 19), .bin .eql (.t 18) (.k (.int .i64 3)), (some (17, true)), [], false⟩,
        ⟨(some 20), .pick (.t 17) (.t 19) (.k (.bool false)), none, [], false⟩,
        ⟨(some 0), .mv (.t 20), none, [], false⟩])
      (.ret)))
/-- skyway/skywayref1.Floor -/
def c88 : CF where
  np := 2
  nt := 36
  res := [.t 4]
  code := .seq (.reg [
      ⟨(some 4), .mv (.k (.int .i64 0)), none, [], false⟩])
    (.seq (.seq (.reg [
        ⟨(some 7), .mv (.t 0), none, [], false⟩,
        ⟨(some 8), .bin .lss (.t 7) (.k (.int .i64 0)), none, [], false⟩])
      (.cond (.t 8) (.seq (.reg [
          ⟨(some 9), .mv (.t 0), none, [], false⟩,
          ⟨(some 10), .un .neg (.t 9), none, [], false⟩,
          ⟨(some 11), .mv (.t 1), none, [], false⟩,
          ⟨(some 12), .bin .add (.t 10) (.t 11), none, [], false⟩,
          ⟨(some 13), .bin .sub (.t 12) (.k (.int .i64 1)), none, [], false⟩,
          ⟨(some 14), .mv (.t 1), none, [], false⟩,
          ⟨(some 15), .call (.k (.fn 88 [])) [(.t 13), (.t 14)], none, [], false⟩,
          ⟨(some 16), .un .neg (.t 15), none, [], false⟩,
          ⟨(some 4), .mv (.t 16), none, [], false⟩])
        (.ret))
       (.skip)))
     (.seq (.reg [
        ⟨(some 5), .mv (.k (.int .i64 0)), none, [], false⟩])
      (.seq (.seq (.reg [
          ⟨(some 6), .mv (.k (.int .i64 62)), none, [], false⟩])
        (.blk 0 (.loop (.seq (.seq (.reg [
              ⟨(some 17), .mv (.t 6), none, [], false⟩,
              ⟨(some 18), .bin .geq (.t 17) (.k (.int .i64 0)), none, [], false⟩])
            (.cond (.t 18) (.skip)
             (.exit 0)))
           (.seq (.blk 1 (.seq (.reg [
                ⟨(some 21), .mv (.t 1), none, [], false⟩,
                ⟨(some 22), .mv (.t 0), none, [], false⟩,
                ⟨(some 23), .mv (.t 6), none, [], false⟩,
                ⟨(some 24), .bin .shr (.t 22) (.t 23), none, [], false⟩,
                ⟨(some 25), .bin .leq (.t 21) (.t 24), none, [], false⟩])
              (.cond (.t 25) (.seq (.reg [
                  ⟨(some 26), .mv (.t 0), none, [], false⟩,
                  ⟨(some 27), .mv (.t 1), none, [], false⟩,
                  ⟨(some 28), .mv (.t 6), none, [], false⟩,
                  ⟨(some 29), .bin .shl (.t 27) (.t 28), none, [], false⟩,
                  ⟨(some 30), .bin .sub (.t 26) (.t 29), none, [], false⟩,
                  ⟨(some 0), .mv (.t 30), none, [], false⟩])
                (.reg [
                  ⟨(some 31), .mv (.t 5), none, [], false⟩,
                  ⟨(some 32), .mv (.t 6), none, [], false⟩,
                  ⟨(some 33), .bin .shl (.k (.int .i64 1)) (.t 32), none, [], false⟩,
                  ⟨(some 34), .bin .add (.t 31) (.t 33), none, [], false⟩,
                  ⟨(some 5), .mv (.t 34), none, [], false⟩]))
               (.skip))))
            (.reg [
              ⟨(some 19), .mv (.t 6), none, [], false⟩,
              ⟨(some 20), .bin .sub (.t 19) (.k (.int .i64 1)), none, [], false⟩,
              ⟨(some 6), .mv (.t 20), none, [], false⟩]))))))
       (.seq (.reg [
          ⟨(some 35), .mv (.t 5), none, [], false⟩,
          ⟨(some 4), .mv (.t 35), none, [], false⟩])
        (.ret)))))
/-- skyway/skywayref1.Mix -/
def c67 : CF where
  np := 4
  nt := 18
  res := [.t 8]
  code := .seq (.reg [
      ⟨(some 8), .mv (.k (.int .i64 0)), none, [], false⟩])
    (.seq (.reg [
       ⟨(some 9), .mv (.t 0), none, [], false⟩,
       ⟨(some 10), .mv (.t 1), none, [], false⟩,
       ⟨(some 11), .mv (.t 0), none, [], false⟩,
       ⟨(some 12), .bin .sub (.t 10) (.t 11), none, [], false⟩,
       ⟨(some 13), .mv (.t 2), none, [], false⟩,
       ⟨(some 14), .bin .mul (.t 12) (.t 13), none, [], false⟩,
       ⟨(some 15), .mv (.t 3), none, [], false⟩,
       ⟨(some 16), .call (.k (.fn 88 [])) [(.t 14), (.t 15)], none, [], false⟩,
       ⟨(some 17), .bin .add (.t 9) (.t 16), none, [], false⟩,
       ⟨(some 8), .mv (.t 17), none, [], false⟩])
     (.ret))
/-- skyway/skywayref1.Ceil -/
def c89 : CF where
  np := 2
  nt := 10
  res := [.t 4]
  code := .seq (.reg [
      ⟨(some 4), .mv (.k (.int .i64 0)), none, [], false⟩])
    (.seq (.reg [
       ⟨(some 5), .mv (.t 0), none, [], false⟩,
       ⟨(some 6), .un .neg (.t 5), none, [], false⟩,
       ⟨(some 7), .mv (.t 1), none, [], false⟩,
       ⟨(some 8), .call (.k (.fn 88 [])) [(.t 6), (.t 7)], none, [], false⟩,
       ⟨(some 9), .un .neg (.t 8), none, [], false⟩,
       ⟨(some 4), .mv (.t 9), none, [], false⟩])
     (.ret))
/-- skyway/skywayref1.MixUp -/
def c68 : CF where
  np := 4
  nt := 18
  res := [.t 8]
  code := .seq (.reg [
      ⟨(some 8), .mv (.k (.int .i64 0)), none, [], false⟩])
    (.seq (.reg [
       ⟨(some 9), .mv (.t 0), none, [], false⟩,
       ⟨(some 10), .mv (.t 1), none, [], false⟩,
       ⟨(some 11), .mv (.t 0), none, [], false⟩,
       ⟨(some 12), .bin .sub (.t 10) (.t 11), none, [], false⟩,
       ⟨(some 13), .mv (.t 2), none, [], false⟩,
       ⟨(some 14), .bin .mul (.t 12) (.t 13), none, [], false⟩,
       ⟨(some 15), .mv (.t 3), none, [], false⟩,
       ⟨(some 16), .call (.k (.fn 89 [])) [(.t 14), (.t 15)], none, [], false⟩,
       ⟨(some 17), .bin .add (.t 9) (.t 16), none, [], false⟩,
       ⟨(some 8), .mv (.t 17), none, [], false⟩])
     (.ret))
/-- skyway/skywayref1.Node -/
def c40 : CF where
  np := 2
  nt := 102
  res := [.cn 6 4]
  code := .seq (.reg [
      ⟨(some 4), .new [.int .i64 0, .int .i64 0, .int .i64 0, .int .i64 0, .int .i64 0, .int .i64 0], none, [], false⟩])
    (.seq (.seq (.reg [
        ⟨(some 10), .mv (.t 0), none, [], false⟩,
        ⟨(some 11), .lenv false (.t 10), none, [], false⟩,
        ⟨(some 12), .bin .sub (.t 11) (.k (.int .i64 1)), none, [], false⟩,
        ⟨(some 5), .mv (.t 12), none, [], false⟩])
      (.blk 0 (.loop (.seq (.seq (.reg [
            ⟨(some 13), .mv (.t 5), none, [], false⟩,
            ⟨(some 14), .bin .gtr (.t 13) (.k (.int .i64 0)), none, [], false⟩])
          (.cond (.t 14) (.skip)
           (.exit 0)))
         (.seq (.blk 1 (.seq (.reg [
              ⟨(some 17), .mv (.t 0), none, [], false⟩,
              ⟨(some 18), .mv (.t 5), none, [], false⟩,
              ⟨(some 19), .bin .sub (.t 18) (.k (.int .i64 1)), none, [], false⟩,
              ⟨(some 20), .iad 6 (.t 17) (.t 19), none, [], false⟩,
              ⟨(some 21), .ldn 6 (.t 20), none, [], false⟩,
              ⟨(some 22), .mv (.t 0), none, [], false⟩,
              ⟨(some 23), .mv (.t 5), none, [], false⟩,
              ⟨(some 24), .iad 6 (.t 22) (.t 23), none, [], false⟩,
              ⟨(some 25), .ldn 6 (.t 24), none, [], false⟩,
              ⟨(some 6), .new [.int .i64 0, .int .i64 0, .int .i64 0, .int .i64 0, .int .i64 0, .int .i64 0], none, [], false⟩,
              ⟨(some 7), .new [.int .i64 0, .int .i64 0, .int .i64 0, .int .i64 0, .int .i64 0, .int .i64 0], none, [], false⟩,
              ⟨none, .st 6 (.t 6) (.t 21), none, [(.t 24)], false⟩,
              ⟨none, .st 6 (.t 7) (.t 25), none, [], false⟩])
            (.seq (.seq (.reg [
                ⟨(some 26), .mv (.t 1), none, [], false⟩,
                ⟨(some 27), .fad 0 (.t 7), none, [], false⟩,
                ⟨(some 28), .fad 0 (.t 27), none, [], false⟩,
                ⟨(some 29), .ld1 (.t 28), none, [], false⟩,
                ⟨(some 30), .bin .gtr (.t 26) (.t 29), none, [], false⟩,
                ⟨(some 31), .mv (.t 30), none, [], false⟩,
                ⟨(some 32), .mv (.t 1), (some (31, false)), [], false⟩,
                ⟨(some 33), .fad 0 (.t 6), (some (31, false)), [], false⟩,
                ⟨(some 34), .fad 0 (.t 33), (some (31, false)), [], false⟩,
                ⟨(some 35), .ld1 (.t 34), (some (31, false)), [], false⟩,
                ⟨(some 36), .bin .lss (.t 32) (.t 35), (some (31, false)), [], false⟩,
                ⟨(some 37), .pick (.t 31) (.k (.bool true)) (.t 36), none, [], false⟩])
              (.cond (.t 37) (.exit 1)
               (.skip)))
             (.seq (.reg [
                ⟨(some 38), .mv (.t 1), none, [], false⟩,
                ⟨(some 39), .fad 0 (.t 6), none, [], false⟩,
                ⟨(some 40), .fad 0 (.t 39), none, [], false⟩,
                ⟨(some 41), .ld1 (.t 40), none, [], false⟩,
                ⟨(some 42), .bin .sub (.t 38) (.t 41), none, [], false⟩,
                ⟨(some 43), .fad 0 (.t 7), none, [], false⟩,
                ⟨(some 44), .fad 0 (.t 43), none, [], false⟩,
                ⟨(some 45), .ld1 (.t 44), none, [], false⟩,
                ⟨(some 46), .fad 0 (.t 6), none, [], false⟩,
                ⟨(some 47), .fad 0 (.t 46), none, [], false⟩,
                ⟨(some 48), .ld1 (.t 47), none, [], false⟩,
                ⟨(some 49), .bin .sub (.t 45) (.t 48), none, [], false⟩,
                ⟨(some 8), .mv (.t 42), none, [], false⟩,
                ⟨(some 9), .mv (.t 49), none, [], false⟩])
              (.seq (.reg [
                 ⟨(some 50), .mv (.t 1), none, [], false⟩,
                 ⟨(some 51), .fad 0 (.t 6), none, [], false⟩,
                 ⟨(some 52), .fad 1 (.t 51), none, [], false⟩,
                 ⟨(some 53), .fad 0 (.t 52), none, [], false⟩,
                 ⟨(some 54), .ld1 (.t 53), none, [], false⟩,
                 ⟨(some 55), .fad 0 (.t 7), none, [], false⟩,
                 ⟨(some 56), .fad 1 (.t 55), none, [], false⟩,
                 ⟨(some 57), .fad 0 (.t 56), none, [], false⟩,
                 ⟨(some 58), .ld1 (.t 57), none, [], false⟩,
                 ⟨(some 59), .mv (.t 8), none, [], false⟩,
                 ⟨(some 60), .mv (.t 9), none, [], false⟩,
                 ⟨(some 62), .fad 0 (.t 6), none, [], false⟩,
                 ⟨(some 63), .fad 1 (.t 62), none, [], false⟩,
                 ⟨(some 64), .fad 1 (.t 63), none, [], false⟩,
                 ⟨(some 65), .ld1 (.t 64), none, [], false⟩,
                 ⟨(some 66), .fad 0 (.t 7), none, [], false⟩,
                 ⟨(some 67), .fad 1 (.t 66), none, [], false⟩,
                 ⟨(some 68), .fad 1 (.t 67), none, [], false⟩,
                 ⟨(some 69), .ld1 (.t 68), none, [], false⟩,
                 ⟨(some 70), .mv (.t 8), none, [], false⟩,
                 ⟨(some 71), .mv (.t 9), none, [], false⟩,
                 ⟨(some 74), .fad 0 (.t 6), none, [], false⟩,
                 ⟨(some 75), .fad 3 (.t 74), none, [], false⟩,
                 ⟨(some 76), .ld1 (.t 75), none, [], false⟩,
                 ⟨(some 77), .fad 0 (.t 7), none, [], false⟩,
                 ⟨(some 78), .fad 3 (.t 77), none, [], false⟩,
                 ⟨(some 79), .ld1 (.t 78), none, [], false⟩,
                 ⟨(some 80), .mv (.t 8), none, [], false⟩,
                 ⟨(some 81), .mv (.t 9), none, [], false⟩,
                 ⟨(some 84), .fad 4 (.t 6), none, [], false⟩,
                 ⟨(some 85), .ld1 (.t 84), none, [], false⟩,
                 ⟨(some 86), .fad 4 (.t 7), none, [], false⟩,
                 ⟨(some 87), .ld1 (.t 86), none, [], false⟩,
                 ⟨(some 88), .mv (.t 8), none, [], false⟩,
                 ⟨(some 89), .mv (.t 9), none, [], false⟩,
                 ⟨(some 91), .fad 5 (.t 6), none, [], false⟩,
                 ⟨(some 92), .ld1 (.t 91), none, [], false⟩,
                 ⟨(some 93), .fad 5 (.t 7), none, [], false⟩,
                 ⟨(some 94), .ld1 (.t 93), none, [], false⟩,
                 ⟨(some 95), .mv (.t 8), none, [], false⟩,
                 ⟨(some 96), .mv (.t 9), none, [], false⟩,
                 ⟨(some 61), .call (.k (.fn 67 [])) [(.t 54), (.t 58), (.t 59), (.t 60)], none, [], true⟩,
                 ⟨(some 72), .call (.k (.fn 67 [])) [(.t 65), (.t 69), (.t 70), (.t 71)], none, [], true⟩,
                 ⟨(some 73), .mk [.int .i64 0, .int .i64 0] [(0, 1, (.t 61)), (1, 1, (.t 72))], none, [], false⟩,
                 ⟨(some 82), .call (.k (.fn 67 [])) [(.t 76), (.t 79), (.t 80), (.t 81)], none, [], true⟩,
                 ⟨(some 83), .mk [.int .i64 0, .int .i64 0, .int .i64 0, .int .i64 0] [(0, 1, (.t 50)), (1, 2, (.t 73)), (3, 1, (.t 82))], none, [], false⟩,
                 ⟨(some 90), .call (.k (.fn 68 [])) [(.t 85), (.t 87), (.t 88), (.t 89)], none, [], true⟩,
                 ⟨(some 97), .call (.k (.fn 68 [])) [(.t 92), (.t 94), (.t 95), (.t 96)], none, [], false⟩,
                 ⟨(some 98), .mk [.int .i64 0, .int .i64 0, .int .i64 0, .int .i64 0, .int .i64 0, .int .i64 0] [(0, 4, (.t 83)), (4, 1, (.t 90)), (5, 1, (.t 97))], none, [], false⟩,
                 ⟨none, .st 6 (.t 4) (.t 98), none, [], false⟩])
               (.ret))))))
          (.reg [
            ⟨(some 15), .mv (.t 5), none, [], false⟩,
            ⟨(some 16), .bin .sub (.t 15) (.k (.int .i64 1)), none, [], false⟩,
            ⟨(some 5), .mv (.t 16), none, [], false⟩]))))))
     (.seq (.reg [
        ⟨(some 99), .mv (.t 0), none, [], false⟩,
        ⟨(some 100), .iad 6 (.t 99) (.k (.int .i64 0)), none, [], false⟩,
        ⟨(some 101), .ldn 6 (.t 100), none, [], false⟩,
        ⟨none, .st 6 (.t 4) (.t 101), none, [], false⟩])
      (.ret)))
/-- skyway/skywaylaw1.TubeNodes -/
def c13 : CF where
  np := 2
  nt := 63
  res := [.t 4]
  code := .seq (.reg [
      ⟨(some 4), .mv (.k (.bool false)), none, [], false⟩])
    (.seq (.seq (.reg [
        ⟨(some 8), .call (.k (.fn 37 [])) [], none, [], false⟩,
        ⟨(some 9), .un .not (.t 8), none, [], false⟩])
      (.cond (.t 9) (.seq (.reg [
          ⟨(some 4), .mv (.k (.bool false)), none, [], false⟩])
        (.ret))
       (.skip)))
     (.seq (.reg [
        ⟨(some 11), .mv (.t 0), none, [], false⟩,
        ⟨(some 12), .mv (.t 1), none, [], false⟩,
        ⟨(some 13), .call (.k (.fn 38 [])) [(.t 11), (.t 12)], none, [], false⟩,
        ⟨(some 10), .mv (.t 13), none, [], false⟩,
        ⟨(some 14), .ext (.t 10) 0, none, [], false⟩,
        ⟨(some 15), .ext (.t 10) 1, none, [], false⟩,
        ⟨(some 5), .new [.int .i64 0, .int .i64 0, .int .i64 0, .int .i64 0, .int .i64 0, .int .i64 0], none, [], false⟩,
        ⟨none, .st 6 (.t 5) (.t 14), none, [], false⟩,
        ⟨(some 6), .mv (.t 15), none, [], false⟩])
      (.seq (.seq (.reg [
          ⟨(some 16), .mv (.t 0), none, [], false⟩,
          ⟨(some 17), .call (.k (.fn 39 [])) [(.t 16)], none, [], false⟩,
          ⟨(some 7), .mv (.t 17), none, [], false⟩])
        (.seq (.reg [
           ⟨(some 18), .mv (.t 7), none, [], false⟩,
           ⟨(some 19), .bin .neq (.t 18) (.k (.int .i64 0)), none, [], false⟩])
         (.cond (.t 19) (.seq (.reg [
             ⟨(some 20), .mv (.t 6), none, [], false⟩,
             ⟨(some 21), .mv (.t 7), none, [], false⟩,
             ⟨(some 22), .bin .eql (.t 20) (.t 21), none, [], false⟩,
             ⟨(some 23), .mv (.t 22), none, [], false⟩,
             ⟨(some 24), .ldn 6 (.t 5), (some (23, true)), [], false⟩,
             ⟨(some 25), .mk [.int .i64 0, .int .i64 0, .int .i64 0, .int .i64 0, .int .i64 0, .int .i64 0] [], (some (23, true)), [], false⟩,
             ⟨(some 26), .eqs false (some [.i, .i, .i, .i, .i, .i]) (.t 24) (.t 25), (some (23, true)), [], false⟩,
             ⟨(some 27), .pick (.t 23) (.t 26) (.k (.bool false)), none, [], false⟩,
             ⟨(some 4), .mv (.t 27), none, [], false⟩])
           (.ret))
          (.skip))))
       (.seq (.seq (.reg [
           ⟨(some 28), .mv (.t 1), none, [], false⟩,
           ⟨(some 29), .mv (.t 0), none, [], false⟩,
           ⟨(some 30), .iad 6 (.t 29) (.k (.int .i64 0)), none, [], false⟩,
           ⟨(some 31), .fad 0 (.t 30), none, [], false⟩,
           ⟨(some 32), .fad 0 (.t 31), none, [], false⟩,
           ⟨(some 33), .ld1 (.t 32), none, [], false⟩,
           ⟨(some 34), .bin .lss (.t 28) (.t 33), none, [], false⟩,
           ⟨(some 35), .mv (.t 34), none, [], false⟩,
           ⟨(some 36), .mv (.t 1), (some (35, false)), [], false⟩,
           ⟨(some 37), .mv (.t 0), (some (35, false)), [], false⟩,
           ⟨(some 38), .mv (.t 0), (some (35, false)), [], false⟩,
           ⟨(some 39), .lenv false (.t 38), (some (35, false)), [], false⟩,
           ⟨(some 40), .bin .sub (.t 39) (.k (.int .i64 1)), (some (35, false)), [], false⟩,
           ⟨(some 41), .iad 6 (.t 37) (.t 40), (some (35, false)), [], false⟩,
           ⟨(some 42), .fad 0 (.t 41), (some (35, false)), [], false⟩,
           ⟨(some 43), .fad 0 (.t 42), (some (35, false)), [], false⟩,
           ⟨(some 44), .ld1 (.t 43), (some (35, false)), [], false⟩,
           ⟨(some 45), .bin .gtr (.t 36) (.t 44), (some (35, false)), [], false⟩,
           ⟨(some 46), .pick (.t 35) (.k (.bool true)) (.t 45), none, [], false⟩])
         (.cond (.t 46) (.seq (.reg [
             ⟨(some 47), .mv (.t 6), none, [], false⟩,
             ⟨(some 48), .bin .eql (.t 47) (.k (.int .i64 12)), none, [], false⟩,
             ⟨(some 49), .mv (.t 48), none, [], false⟩,
             ⟨(some 50), .ldn 6 (.t 5), (some (49, true)), [], false⟩,
             ⟨(some 51), .mk [.int .i64 0, .int .i64 0, .int .i64 0, .int .i64 0, .int .i64 0, .int .i64 0] [], (some (49, true)), [], false⟩,
             ⟨(some 52), .eqs false (some [.i, .i, .i, .i, .i, .i]) (.t 50) (.t 51), (some (49, true)), [], false⟩,
             ⟨(some 53), .pick (.t 49) (.t 52) (.k (.bool false)), none, [], false⟩,
             ⟨(some 4), .mv (.t 53), none, [], false⟩])
           (.ret))
          (.skip)))
        (.seq (.reg [
           ⟨(some 54), .mv (.t 6), none, [], false⟩,
           ⟨(some 55), .bin .eql (.t 54) (.k (.int .i64 0)), none, [], false⟩,
           ⟨(some 56), .mv (.t 55), none, [], false⟩,
           ⟨(some 57), .ldn 6 (.t 5), (some (56, true)), [], false⟩,
           ⟨(some 58), .mv (.t 0), (some (56, true)), [], false⟩,
           ⟨(some 59), .mv (.t 1), (some (56, true)), [], false⟩,
           ⟨(some 60), .call (.k (.fn 40 [])) [(.t 58), (.t 59)], (some (56, true)), [], true⟩,
           ⟨(some 61), .eqs false (some [.i, .i, .i, .i, .i, .i]) (.t 57) (.t 60), (some (56, true)), [], false⟩,
           ⟨(some 62), .pick (.t 56) (.t 61) (.k (.bool false)), none, [], false⟩,
           ⟨(some 4), .mv (.t 62), none, [], false⟩])
         (.ret))))))
/-- skyway/plane.Sub -/
def c92 : CF where
  np := 2
  nt := 16
  res := [.cn 2 4]
  code := .seq (.reg [
      ⟨(some 2), .box (.t 0), none, [], false⟩,
      ⟨(some 3), .box (.t 1), none, [], false⟩,
      ⟨(some 4), .new [.int .i64 0, .int .i64 0], none, [], false⟩])
    (.seq (.reg [
       ⟨(some 5), .fad 0 (.t 2), none, [], false⟩,
       ⟨(some 6), .ld1 (.t 5), none, [], false⟩,
       ⟨(some 7), .fad 0 (.t 3), none, [], false⟩,
       ⟨(some 8), .ld1 (.t 7), none, [], false⟩,
       ⟨(some 9), .bin .sub (.t 6) (.t 8), none, [], false⟩,
       ⟨(some 10), .fad 1 (.t 2), none, [], false⟩,
       ⟨(some 11), .ld1 (.t 10), none, [], false⟩,
       ⟨(some 12), .fad 1 (.t 3), none, [], false⟩,
       ⟨(some 13), .ld1 (.t 12), none, [], false⟩,
       ⟨(some 14), .bin .sub (.t 11) (.t 13), none, [], false⟩,
       ⟨(some 15), .mk [.int .i64 0, .int .i64 0] [(0, 1, (.t 9)), (1, 1, (.t 14))], none, [], false⟩,
       ⟨none, .st 2 (.t 4) (.t 15), none, [], false⟩])
     (.ret))
/-- skyway/plane.Cross -/
def c91 : CF where
  np := 2
  nt := 16
  res := [.t 4]
  code := .seq (.reg [
      ⟨(some 2), .box (.t 0), none, [], false⟩,
      ⟨(some 3), .box (.t 1), none, [], false⟩,
      ⟨(some 4), .mv (.k (.int .i64 0)), none, [], false⟩])
    (.seq (.reg [
       ⟨(some 5), .fad 0 (.t 2), none, [], false⟩,
       ⟨(some 6), .ld1 (.t 5), none, [], false⟩,
       ⟨(some 7), .fad 1 (.t 3), none, [], false⟩,
       ⟨(some 8), .ld1 (.t 7), none, [], false⟩,
       ⟨(some 9), .bin .mul (.t 6) (.t 8), none, [], false⟩,
       ⟨(some 10), .fad 1 (.t 2), none, [], false⟩,
       ⟨(some 11), .ld1 (.t 10), none, [], false⟩,
       ⟨(some 12), .fad 0 (.t 3), none, [], false⟩,
       ⟨(some 13), .ld1 (.t 12), none, [], false⟩,
       ⟨(some 14), .bin .mul (.t 11) (.t 13), none, [], false⟩,
       ⟨(some 15), .bin .sub (.t 9) (.t 14), none, [], false⟩,
       ⟨(some 4), .mv (.t 15), none, [], false⟩])
     (.ret))
/-- skyway/plane.Turn -/
def c71 : CF where
  np := 3
  nt := 21
  res := [.t 6]
  code := .seq (.reg [
      ⟨(some 3), .box (.t 0), none, [], false⟩,
      ⟨(some 4), .box (.t 1), none, [], false⟩,
      ⟨(some 5), .box (.t 2), none, [], false⟩,
      ⟨(some 6), .mv (.k (.int .i64 0)), none, [], false⟩])
    (.seq (.seq (.reg [
        ⟨(some 8), .ldn 2 (.t 4), none, [], false⟩,
        ⟨(some 9), .ldn 2 (.t 3), none, [], false⟩,
        ⟨(some 11), .ldn 2 (.t 5), none, [], false⟩,
        ⟨(some 12), .ldn 2 (.t 3), none, [], false⟩,
        ⟨(some 10), .call (.k (.fn 92 [])) [(.t 8), (.t 9)], none, [], true⟩,
        ⟨(some 13), .call (.k (.fn 92 [])) [(.t 11), (.t 12)], none, [], false⟩,
        ⟨(some 14), .call (.k (.fn 91 [])) [(.t 10), (.t 13)], none, [], false⟩,
        ⟨(some 7), .mv (.t 14), none, [], false⟩])
      (.blk 0 (.seq (.reg [
          ⟨(some 16), .mv (.t 7), none, [], false⟩,
          ⟨(some 17), .bin .gtr (.t 16) (.k (.int .i64 0)), none, [], false⟩,
          ⟨(some 15), .mv (.t 17), none, [], false⟩])
        (.cond (.t 15) (.seq (.reg [
            ⟨(some 6), .mv (.k (.int .i64 1)), none, [], false⟩])
          (.ret))
         (.seq (.reg [
            ⟨(some 19), .mv (.t 7), none, [], false⟩,
            ⟨(some 20), .bin .lss (.t 19) (.k (.int .i64 0)), none, [], false⟩,
            ⟨(some 18), .mv (.t 20), none, [], false⟩])
          (.cond (.t 18) (.seq (.reg [
              ⟨(some 6), .mv (.k (.int .i64 (-1))), none, [], false⟩])
            (.ret))
           (.skip)))))))
     (.seq (.reg [
        ⟨(some 6), .mv (.k (.int .i64 0)), none, [], false⟩])
      (.ret)))
/-- skyway/plane.Dot -/
def c93 : CF where
  np := 2
  nt := 16
  res := [.t 4]
  code := .seq (.reg [
      ⟨(some 2), .box (.t 0), none, [], false⟩,
      ⟨(some 3), .box (.t 1), none, [], false⟩,
      ⟨(some 4), .mv (.k (.int .i64 0)), none, [], false⟩])
    (.seq (.reg [
       ⟨(some 5), .fad 0 (.t 2), none, [], false⟩,
       ⟨(some 6), .ld1 (.t 5), none, [], false⟩,
       ⟨(some 7), .fad 0 (.t 3), none, [], false⟩,
       ⟨(some 8), .ld1 (.t 7), none, [], false⟩,
       ⟨(some 9), .bin .mul (.t 6) (.t 8), none, [], false⟩,
       ⟨(some 10), .fad 1 (.t 2), none, [], false⟩,
       ⟨(some 11), .ld1 (.t 10), none, [], false⟩,
       ⟨(some 12), .fad 1 (.t 3), none, [], false⟩,
       ⟨(some 13), .ld1 (.t 12), none, [], false⟩,
       ⟨(some 14), .bin .mul (.t 11) (.t 13), none, [], false⟩,
       ⟨(some 15), .bin .add (.t 9) (.t 14), none, [], false⟩,
       ⟨(some 4), .mv (.t 15), none, [], false⟩])
     (.ret))
/-- skyway/polygon.on -/
def c90 : CF where
  np := 3
  nt := 15
  res := [.t 6]
  code := .seq (.reg [
      ⟨(some 3), .box (.t 0), none, [], false⟩,
      ⟨(some 4), .box (.t 1), none, [], false⟩,
      ⟨(some 5), .box (.t 2), none, [], false⟩,
      ⟨(some 6), .mv (.k (.bool false)), none, [], false⟩])
    (.seq (.reg [
       ⟨(some 7), .ldn 2 (.t 3), none, [], false⟩,
       ⟨(some 8), .ldn 2 (.t 5), none, [], false⟩,
       ⟨(some 10), .ldn 2 (.t 4), none, [], false⟩,
       ⟨(some 11), .ldn 2 (.t 5), none, [], false⟩,
       ⟨(some 9), .call (.k (.fn 92 [])) [(.t 7), (.t 8)], none, [], true⟩,
       ⟨(some 12), .call (.k (.fn 92 [])) [(.t 10), (.t 11)], none, [], false⟩,
       ⟨(some 13), .call (.k (.fn 93 [])) [(.t 9), (.t 12)], none, [], false⟩,
       ⟨(some 14), .bin .leq (.t 13) (.k (.int .i64 0)), none, [], false⟩,
       ⟨(some 6), .mv (.t 14), none, [], false⟩])
     (.ret))
/-- skyway/polygon.Common -/
def c72 : CF where
  np := 4
  nt := 77
  res := [.t 8]
  code := .seq (.reg [
      ⟨(some 4), .box (.t 0), none, [], false⟩,
      ⟨(some 5), .box (.t 1), none, [], false⟩,
      ⟨(some 6), .box (.t 2), none, [], false⟩,
      ⟨(some 7), .box (.t 3), none, [], false⟩,
      ⟨(some 8), .mv (.k (.bool false)), none, [], false⟩])
    (.seq (.reg [
       ⟨(some 13), .ldn 2 (.t 4), none, [], false⟩,
       ⟨(some 14), .ldn 2 (.t 5), none, [], false⟩,
       ⟨(some 15), .ldn 2 (.t 6), none, [], false⟩,
       ⟨(some 17), .ldn 2 (.t 4), none, [], false⟩,
       ⟨(some 18), .ldn 2 (.t 5), none, [], false⟩,
       ⟨(some 19), .ldn 2 (.t 7), none, [], false⟩,
       ⟨(some 16), .call (.k (.fn 71 [])) [(.t 13), (.t 14), (.t 15)], none, [], true⟩,
       ⟨(some 20), .call (.k (.fn 71 [])) [(.t 17), (.t 18), (.t 19)], none, [], false⟩,
       ⟨(some 9), .mv (.t 16), none, [], false⟩,
       ⟨(some 10), .mv (.t 20), none, [], false⟩])
     (.seq (.reg [
        ⟨(some 21), .ldn 2 (.t 6), none, [], false⟩,
        ⟨(some 22), .ldn 2 (.t 7), none, [], false⟩,
        ⟨(some 23), .ldn 2 (.t 4), none, [], false⟩,
        ⟨(some 25), .ldn 2 (.t 6), none, [], false⟩,
        ⟨(some 26), .ldn 2 (.t 7), none, [], false⟩,
        ⟨(some 27), .ldn 2 (.t 5), none, [], false⟩,
        ⟨(some 24), .call (.k (.fn 71 [])) [(.t 21), (.t 22), (.t 23)], none, [], true⟩,
        ⟨(some 28), .call (.k (.fn 71 [])) [(.t 25), (.t 26), (.t 27)], none, [], false⟩,
        ⟨(some 11), .mv (.t 24), none, [], false⟩,
        ⟨(some 12), .mv (.t 28), none, [], false⟩])
      (.seq (.seq (.reg [
          ⟨(some 29), .mv (.t 9), none, [], false⟩,
          ⟨(some 30), .mv (.t 10), none, [], false⟩,
          ⟨(some 31), .bin .mul (.t 29) (.t 30), none, [], false⟩,
          ⟨(some 32), .bin .lss (.t 31) (.k (.int .i64 0)), none, [], false⟩,
          ⟨(some 33), .mv (.t 32), none, [], false⟩,
          ⟨(some 34), .mv (.t 11), (some (33, true)), [], false⟩,
          ⟨(some 35), .mv (.t 12), (some (33, true)), [], false⟩,
          ⟨(some 36), .bin .mul (.t 34) (.t 35), (some (33, true)), [], false⟩,
          ⟨(some 37), .bin .lss (.t 36) (.k (.int .i64 0)), (some (33, true)), [], false⟩,
          ⟨(some 38), .pick (.t 33) (.t 37) (.k (.bool false)), none, [], false⟩])
        (.cond (.t 38) (.seq (.reg [
            ⟨(some 8), .mv (.k (.bool true)), none, [], false⟩])
          (.ret))
         (.skip)))
       (.seq (.reg [
          ⟨(some 39), .mv (.t 9), none, [], false⟩,
          ⟨(some 40), .bin .eql (.t 39) (.k (.int .i64 0)), none, [], false⟩,
          ⟨(some 41), .mv (.t 40), none, [], false⟩,
          ⟨(some 42), .ldn 2 (.t 4), (some (41, true)), [], false⟩,
          ⟨(some 43), .ldn 2 (.t 5), (some (41, true)), [], false⟩,
          ⟨(some 44), .ldn 2 (.t 6), (some (41, true)), [], false⟩,
          ⟨(some 45), .call (.k (.fn 90 [])) [(.t 42), (.t 43), (.t 44)], (some (41, true)), [], false⟩,
          ⟨(some 46), .pick (.t 41) (.t 45) (.k (.bool false)), none, [], false⟩,
          ⟨(some 47), .mv (.t 46), none, [], false⟩,
          ⟨(some 48), .mv (.t 10), (some (47, false)), [], false⟩,
          ⟨(some 49), .bin .eql (.t 48) (.k (.int .i64 0)), (some (47, false)), [], false⟩,
          ⟨(some 50), .mv (.t 49), (some (47, false)), [], false⟩,
          ⟨(some 51), .ldn 2 (.t 4), (some (50, true)), [], false⟩,
          ⟨(some 52), .ldn 2 (.t 5), (some (50, true)), [], false⟩,
          ⟨(some 53), .ldn 2 (.t 7), (some (50, true)), [], false⟩,
          ⟨(some 54), .call (.k (.fn 90 [])) [(.t 51), (.t 52), (.t 53)], (some (50, true)), [], false⟩,
          ⟨(some 55), .pick (.t 50) (.t 54) (.k (.bool false)), (some (47, false)), [], false⟩,
          ⟨(some 56), .pick (.t 47) (.k (.bool true)) (.t 55), none, [], false⟩,
          ⟨(some 57), .mv (.t 56), none, [], false⟩,
          ⟨(some 58), .mv (.t 11), (some (57, false)), [], false⟩,
          ⟨(some 59), .bin .eql (.t 58) (.k (.int .i64 0)), (some (57, false)), [], false⟩,
          ⟨(some 60), .mv (.t 59), (some (57, false)), [], false⟩,
          ⟨(some 61), .ldn 2 (.t 6), (some (60, true)), [], false⟩,
          ⟨(some 62), .ldn 2 (.t 7), (some (60, true)), [], false⟩,
          ⟨(some 63), .ldn 2 (.t 4), (some (60, true)), [], false⟩,
          ⟨(some 64), .call (.k (.fn 90 [])) [(.t 61), (.t 62), (.t 63)], (some (60, true)), [], false⟩,
          ⟨(some 65), .pick (.t 60) (.t 64) (.k (.bool false)), (some (57, false)), [], false⟩,
          ⟨(some 66), .pick (.t 57) (.k (.bool true)) (.t 65), none, [], false⟩,
          ⟨(some 67), .mv (.t 66), none, [], false⟩,
          ⟨(some 68), .mv (.t 12), (some (67, false)), [], false⟩,
          ⟨(some 69), .bin .eql (.t 68) (.k (.int .i64 0)), (some (67, false)), [], false⟩,
          ⟨(some 70), .mv (.t 69), (some (67, false)), [], false⟩,
          ⟨(some 71), .ldn 2 (.t 6), (some (70, true)), [], false⟩,
          ⟨(some 72), .ldn 2 (.t 7), (some (70, true)), [], false⟩,
          ⟨(some 73), .ldn 2 (.t 5), (some (70, true)), [], false⟩,
          ⟨(some 74), .call (.k (.fn 90 [])) [(.t 71), (.t 72), (.t 73)], (some (70, true)), [], false⟩,
          ⟨(some 75), .pick (.t 70) (.t 74) (.k (.bool false)), (some (67, false)), [], false⟩,
          ⟨(some 76), .pick (.t 67) (.k (.bool true)) (.t 75), none, [], false⟩,
          ⟨(some 8), .mv (.t 76), none, [], false⟩])
        (.ret)))))
/-- skyway/polygon.double -/
def c73 : CF where
  np := 1
  nt := 27
  res := [.t 2]
  code := .seq (.reg [
      ⟨(some 2), .mv (.k (.int .i64 0)), none, [], false⟩])
    (.seq (.reg [
       ⟨(some 3), .mv (.k (.int .i64 0)), none, [], false⟩])
     (.seq (.seq (.reg [
         ⟨(some 6), .mv (.t 0), none, [], false⟩,
         ⟨(some 7), .lenv false (.t 6), none, [], false⟩,
         ⟨(some 8), .mv (.k (.int .i64 0)), none, [], false⟩])
       (.blk 0 (.loop (.seq (.reg [
            ⟨(some 9), .bin .lss (.t 8) (.t 7), none, [], false⟩])
          (.seq (.cond (.t 9) (.skip)
            (.exit 0))
           (.seq (.blk 1 (.seq (.reg [
                ⟨(some 10), .mv (.t 8), none, [], false⟩,
                ⟨(some 11), .iad 2 (.t 6) (.t 8), none, [], false⟩,
                ⟨(some 12), .ldn 2 (.t 11), none, [], false⟩,
                ⟨(some 5), .new [.int .i64 0, .int .i64 0], none, [], false⟩,
                ⟨(some 4), .mv (.t 10), none, [], false⟩,
                ⟨none, .st 2 (.t 5) (.t 12), none, [], false⟩])
              (.reg [
                ⟨(some 13), .mv (.t 3), none, [], false⟩,
                ⟨(some 14), .ldn 2 (.t 5), none, [], false⟩,
                ⟨(some 15), .mv (.t 0), none, [], false⟩,
                ⟨(some 16), .mv (.t 4), none, [], false⟩,
                ⟨(some 17), .bin .add (.t 16) (.k (.int .i64 1)), none, [], false⟩,
                ⟨(some 18), .mv (.t 0), none, [], false⟩,
                ⟨(some 19), .lenv false (.t 18), none, [], false⟩,
                ⟨(some 20), .bin .rem (.t 17) (.t 19), none, [], false⟩,
                ⟨(some 21), .iad 2 (.t 15) (.t 20), none, [], false⟩,
                ⟨(some 22), .ldn 2 (.t 21), none, [], false⟩,
                ⟨(some 23), .call (.k (.fn 91 [])) [(.t 14), (.t 22)], none, [], false⟩,
                ⟨(some 24), .bin .add (.t 13) (.t 23), none, [], false⟩,
                ⟨(some 3), .mv (.t 24), none, [], false⟩])))
            (.reg [
              ⟨(some 25), .bin .add (.t 8) (.k (.int .i64 1)), none, [], false⟩,
              ⟨(some 8), .mv (.t 25), none, [], false⟩])))))))
      (.seq (.reg [
         ⟨(some 26), .mv (.t 3), none, [], false⟩,
         ⟨(some 2), .mv (.t 26), none, [], false⟩])
       (.ret))))
/-- skyway/polygon.Check -/
def c43 : CF where
  np := 1
  nt := 96
  res := [.t 2]
  code := .seq (.reg [
      ⟨(some 2), .mv (.k (.int .i64 0)), none, [], false⟩])
    (.seq (.blk 0 (.seq (.reg [
         ⟨(some 10), .mv (.t 0), none, [], false⟩,
         ⟨(some 11), .lenv false (.t 10), none, [], false⟩,
         ⟨(some 12), .bin .gtr (.t 11) (.k (.int .i64 16)), none, [], false⟩,
         ⟨(some 9), .mv (.t 12), none, [], false⟩])
       (.cond (.t 9) (.seq (.reg [
           ⟨(some 2), .mv (.k (.int .i64 2)), none, [], false⟩])
         (.ret))
        (.seq (.reg [
           ⟨(some 14), .mv (.t 0), none, [], false⟩,
           ⟨(some 15), .lenv false (.t 14), none, [], false⟩,
           ⟨(some 16), .bin .lss (.t 15) (.k (.int .i64 3)), none, [], false⟩,
           ⟨(some 13), .mv (.t 16), none, [], false⟩])
         (.cond (.t 13) (.seq (.reg [
             ⟨(some 2), .mv (.k (.int .i64 3)), none, [], false⟩])
           (.ret))
          (.skip))))))
     (.seq (.seq (.reg [
         ⟨(some 17), .mv (.t 0), none, [], false⟩,
         ⟨(some 18), .lenv false (.t 17), none, [], false⟩,
         ⟨(some 19), .mv (.k (.int .i64 0)), none, [], false⟩])
       (.blk 1 (.loop (.seq (.reg [
            ⟨(some 20), .bin .lss (.t 19) (.t 18), none, [], false⟩])
          (.seq (.cond (.t 20) (.skip)
            (.exit 1))
           (.seq (.blk 2 (.seq (.reg [
                ⟨(some 21), .iad 2 (.t 17) (.t 19), none, [], false⟩,
                ⟨(some 22), .ldn 2 (.t 21), none, [], false⟩,
                ⟨(some 4), .new [.int .i64 0, .int .i64 0], none, [], false⟩,
                ⟨none, .st 2 (.t 4) (.t 22), none, [], false⟩])
              (.seq (.reg [
                 ⟨(some 23), .ldn 2 (.t 4), none, [], false⟩,
                 ⟨(some 24), .call (.k (.fn 66 [])) [(.t 23)], none, [], false⟩,
                 ⟨(some 5), .mv (.t 24), none, [], false⟩])
               (.seq (.reg [
                  ⟨(some 25), .mv (.t 5), none, [], false⟩,
                  ⟨(some 26), .bin .neq (.t 25) (.k (.int .i64 0)), none, [], false⟩])
                (.cond (.t 26) (.seq (.reg [
                    ⟨(some 27), .mv (.t 5), none, [], false⟩,
                    ⟨(some 2), .mv (.t 27), none, [], false⟩])
                  (.ret))
                 (.skip))))))
            (.reg [
              ⟨(some 28), .bin .add (.t 19) (.k (.int .i64 1)), none, [], false⟩,
              ⟨(some 19), .mv (.t 28), none, [], false⟩])))))))
      (.seq (.reg [
         ⟨(some 29), .mv (.t 0), none, [], false⟩,
         ⟨(some 30), .lenv false (.t 29), none, [], false⟩,
         ⟨(some 6), .mv (.t 30), none, [], false⟩])
       (.seq (.seq (.reg [
           ⟨(some 31), .mv (.t 0), none, [], false⟩,
           ⟨(some 32), .lenv false (.t 31), none, [], false⟩,
           ⟨(some 33), .mv (.k (.int .i64 0)), none, [], false⟩])
         (.blk 3 (.loop (.seq (.reg [
              ⟨(some 34), .bin .lss (.t 33) (.t 32), none, [], false⟩])
            (.seq (.cond (.t 34) (.skip)
              (.exit 3))
             (.seq (.blk 4 (.seq (.reg [
                  ⟨(some 35), .mv (.t 33), none, [], false⟩,
                  ⟨(some 7), .mv (.t 35), none, [], false⟩])
                (.seq (.seq (.reg [
                    ⟨(some 36), .mv (.t 0), none, [], false⟩,
                    ⟨(some 37), .mv (.t 7), none, [], false⟩,
                    ⟨(some 38), .iad 2 (.t 36) (.t 37), none, [], false⟩,
                    ⟨(some 39), .ldn 2 (.t 38), none, [], false⟩,
                    ⟨(some 40), .mv (.t 0), none, [], false⟩,
                    ⟨(some 41), .mv (.t 7), none, [], false⟩,
                    ⟨(some 42), .bin .add (.t 41) (.k (.int .i64 1)), none, [], false⟩,
                    ⟨(some 43), .mv (.t 6), none, [], false⟩,
                    ⟨(some 44), .bin .rem (.t 42) (.t 43), none, [], false⟩,
                    ⟨(some 45), .iad 2 (.t 40) (.t 44), none, [], false⟩,
                    ⟨(some 46), .ldn 2 (.t 45), none, [], false⟩,
                    ⟨(some 47), .mv (.t 0), none, [], false⟩,
                    ⟨(some 48), .mv (.t 7), none, [], false⟩,
                    ⟨(some 49), .bin .add (.t 48) (.k (.int .i64 2)), none, [], false⟩,
                    ⟨(some 50), .mv (.t 6), none, [], false⟩,
                    ⟨(some 51), .bin .rem (.t 49) (.t 50), none, [], false⟩,
                    ⟨(some 52), .iad 2 (.t 47) (.t 51), none, [], false⟩,
                    ⟨(some 53), .ldn 2 (.t 52), none, [], false⟩,
                    ⟨(some 54), .call (.k (.fn 71 [])) [(.t 39), (.t 46), (.t 53)], none, [], false⟩,
                    ⟨(some 55), .bin .eql (.t 54) (.k (.int .i64 0)), none, [], false⟩])
                  (.cond (.t 55) (.seq (.reg [
                      ⟨(some 2), .mv (.k (.int .i64 3)), none, [], false⟩])
                    (.ret))
                   (.skip)))
                 (.seq (.reg [
                    ⟨(some 56), .mv (.t 7), none, [], false⟩,
                    ⟨(some 57), .bin .add (.t 56) (.k (.int .i64 2)), none, [], false⟩,
                    ⟨(some 8), .mv (.t 57), none, [], false⟩])
                  (.blk 5 (.loop (.seq (.seq (.reg [
                        ⟨(some 58), .mv (.t 8), none, [], false⟩,
                        ⟨(some 59), .mv (.t 6), none, [], false⟩,
                        ⟨(some 60), .bin .lss (.t 58) (.t 59), none, [], false⟩])
                      (.cond (.t 60) (.skip)
                       (.exit 5)))
                     (.seq (.blk 6 (.seq (.reg [
                          ⟨(some 63), .mv (.t 8), none, [], false⟩,
                          ⟨(some 64), .bin .add (.t 63) (.k (.int .i64 1)), none, [], false⟩,
                          ⟨(some 65), .mv (.t 6), none, [], false⟩,
                          ⟨(some 66), .bin .rem (.t 64) (.t 65), none, [], false⟩,
                          ⟨(some 67), .mv (.t 7), none, [], false⟩,
                          ⟨(some 68), .bin .neq (.t 66) (.t 67), none, [], false⟩,
                          ⟨(some 69), .mv (.t 68), none, [], false⟩,
                          ⟨(some 70), .mv (.t 0), (some (69, true)), [], false⟩,
                          ⟨(some 71), .mv (.t 7), (some (69, true)), [], false⟩,
                          ⟨(some 72), .iad 2 (.t 70) (.t 71), (some (69, true)), [], false⟩,
                          ⟨(some 73), .ldn 2 (.t 72), (some (69, true)), [], false⟩,
                          ⟨(some 74), .mv (.t 0), (some (69, true)), [], false⟩,
                          ⟨(some 75), .mv (.t 7), (some (69, true)), [], false⟩,
                          ⟨(some 76), .bin .add (.t 75) (.k (.int .i64 1)), (some (69, true)), [], false⟩,
                          ⟨(some 77), .iad 2 (.t 74) (.t 76), (some (69, true)), [], false⟩,
                          ⟨(some 78), .ldn 2 (.t 77), (some (69, true)), [], false⟩,
                          ⟨(some 79), .mv (.t 0), (some (69, true)), [], false⟩,
                          ⟨(some 80), .mv (.t 8), (some (69, true)), [], false⟩,
                          ⟨(some 81), .iad 2 (.t 79) (.t 80), (some (69, true)), [], false⟩,
                          ⟨(some 82), .ldn 2 (.t 81), (some (69, true)), [], false⟩,
                          ⟨(some 83), .mv (.t 0), (some (69, true)), [], false⟩,
                          ⟨(some 84), .mv (.t 8), (some (69, true)), [], false⟩,
                          ⟨(some 85), .bin .add (.t 84) (.k (.int .i64 1)), (some (69, true)), [], false⟩,
                          ⟨(some 86), .mv (.t 6), (some (69, true)), [], false⟩,
                          ⟨(some 87), .bin .rem (.t 85) (.t 86), (some (69, true)), [], false⟩,
                          ⟨(some 88), .iad 2 (.t 83) (.t 87), (some (69, true)), [], false⟩,
                          ⟨(some 89), .ldn 2 (.t 88), (some (69, true)), [], false⟩,
                          ⟨(some 90), .call (.k (.fn 72 [])) [(.t 73), (.t 78), (.t 82), (.t 89)], (some (69, true)), [], false⟩,
                          ⟨(some 91), .pick (.t 69) (.t 90) (.k (.bool false)), none, [], false⟩])
                        (.cond (.t 91) (.seq (.reg [
                            ⟨(some 2), .mv (.k (.int .i64 3)), none, [], false⟩])
                          (.ret))
                         (.skip))))
                      (.reg [
                        ⟨(some 61), .mv (.t 8), none, [], false⟩,
                        ⟨(some 62), .bin .add (.t 61) (.k (.int .i64 1)), none, [], false⟩,
                        ⟨(some 8), .mv (.t 62), none, [], false⟩])))))))))
              (.reg [
                ⟨(some 92), .bin .add (.t 33) (.k (.int .i64 1)), none, [], false⟩,
                ⟨(some 33), .mv (.t 92), none, [], false⟩])))))))
        (.seq (.seq (.reg [
            ⟨(some 93), .mv (.t 0), none, [], false⟩,
            ⟨(some 94), .call (.k (.fn 73 [])) [(.t 93)], none, [], false⟩,
            ⟨(some 95), .bin .leq (.t 94) (.k (.int .i64 0)), none, [], false⟩])
          (.cond (.t 95) (.seq (.reg [
              ⟨(some 2), .mv (.k (.int .i64 3)), none, [], false⟩])
            (.ret))
           (.skip)))
         (.seq (.reg [
            ⟨(some 2), .mv (.k (.int .i64 0)), none, [], false⟩])
          (.ret)))))))
/-- skyway/polygon.locate -/
def c70 : CF where
  np := 2
  nt := 78
  res := [.t 4]
  code := .seq (.reg [
      ⟨(some 3), .box (.t 1), none, [], false⟩,
      ⟨(some 4), .mv (.k (.int .i64 0)), none, [], false⟩])
    (.seq (.reg [
       ⟨(some 5), .mv (.k (.int .i64 (-1))), none, [], false⟩])
     (.seq (.seq (.reg [
         ⟨(some 10), .mv (.t 0), none, [], false⟩,
         ⟨(some 11), .lenv false (.t 10), none, [], false⟩,
         ⟨(some 12), .mv (.k (.int .i64 0)), none, [], false⟩])
       (.blk 0 (.loop (.seq (.reg [
            ⟨(some 13), .bin .lss (.t 12) (.t 11), none, [], false⟩])
          (.seq (.cond (.t 13) (.skip)
            (.exit 0))
           (.seq (.blk 1 (.seq (.reg [
                ⟨(some 14), .mv (.t 12), none, [], false⟩,
                ⟨(some 15), .iad 2 (.t 10) (.t 12), none, [], false⟩,
                ⟨(some 16), .ldn 2 (.t 15), none, [], false⟩,
                ⟨(some 7), .new [.int .i64 0, .int .i64 0], none, [], false⟩,
                ⟨(some 6), .mv (.t 14), none, [], false⟩,
                ⟨none, .st 2 (.t 7) (.t 16), none, [], false⟩])
              (.seq (.reg [
                 ⟨(some 17), .mv (.t 0), none, [], false⟩,
                 ⟨(some 18), .mv (.t 6), none, [], false⟩,
                 ⟨(some 19), .mv (.t 0), none, [], false⟩,
                 ⟨(some 20), .lenv false (.t 19), none, [], false⟩,
                 ⟨(some 21), .bin .add (.t 18) (.t 20), none, [], false⟩,
                 ⟨(some 22), .bin .sub (.t 21) (.k (.int .i64 1)), none, [], false⟩,
                 ⟨(some 23), .mv (.t 0), none, [], false⟩,
                 ⟨(some 24), .lenv false (.t 23), none, [], false⟩,
                 ⟨(some 25), .bin .rem (.t 22) (.t 24), none, [], false⟩,
                 ⟨(some 26), .iad 2 (.t 17) (.t 25), none, [], false⟩,
                 ⟨(some 27), .ldn 2 (.t 26), none, [], false⟩,
                 ⟨(some 8), .new [.int .i64 0, .int .i64 0], none, [], false⟩,
                 ⟨none, .st 2 (.t 8) (.t 27), none, [], false⟩])
               (.seq (.reg [
                  ⟨(some 28), .ldn 2 (.t 8), none, [], false⟩,
                  ⟨(some 29), .ldn 2 (.t 7), none, [], false⟩,
                  ⟨(some 30), .ldn 2 (.t 3), none, [], false⟩,
                  ⟨(some 31), .call (.k (.fn 71 [])) [(.t 28), (.t 29), (.t 30)], none, [], false⟩,
                  ⟨(some 9), .mv (.t 31), none, [], false⟩])
                (.seq (.seq (.reg [
                    ⟨(some 32), .mv (.t 9), none, [], false⟩,
                    ⟨(some 33), .bin .eql (.t 32) (.k (.int .i64 0)), none, [], false⟩,
                    ⟨(some 34), .mv (.t 33), none, [], false⟩,
                    ⟨(some 35), .ldn 2 (.t 8), (some (34, true)), [], false⟩,
                    ⟨(some 36), .ldn 2 (.t 7), (some (34, true)), [], false⟩,
                    ⟨(some 37), .ldn 2 (.t 3), (some (34, true)), [], false⟩,
                    ⟨(some 38), .call (.k (.fn 90 [])) [(.t 35), (.t 36), (.t 37)], (some (34, true)), [], false⟩,
                    ⟨(some 39), .pick (.t 34) (.t 38) (.k (.bool false)), none, [], false⟩])
                  (.cond (.t 39) (.seq (.reg [
                      ⟨(some 4), .mv (.k (.int .i64 0)), none, [], false⟩])
                    (.ret))
                   (.skip)))
                 (.seq (.reg [
                    ⟨(some 40), .fad 1 (.t 8), none, [], false⟩,
                    ⟨(some 41), .ld1 (.t 40), none, [], false⟩,
                    ⟨(some 42), .fad 1 (.t 3), none, [], false⟩,
                    ⟨(some 43), .ld1 (.t 42), none, [], false⟩,
                    ⟨(some 44), .bin .leq (.t 41) (.t 43), none, [], false⟩,
                    ⟨(some 45), .mv (.t 44), none, [], false⟩,
                    ⟨(some 46), .fad 1 (.t 3), (some (45, true)), [], false⟩,
                    ⟨(some 47), .ld1 (.t 46), (some (45, true)), [], false⟩,
                    ⟨(some 48), .fad 1 (.t 7), (some (45, true)), [], false⟩,
                    ⟨(some 49), .ld1 (.t 48), (some (45, true)), [], false⟩,
                    ⟨(some 50), .bin .lss (.t 47) (.t 49), (some (45, true)), [], false⟩,
                    ⟨(some 51), .pick (.t 45) (.t 50) (.k (.bool false)), none, [], false⟩,
                    ⟨(some 52), .mv (.t 51), none, [], false⟩,
                    ⟨(some 53), .mv (.t 9), (some (52, true)), [], false⟩,
                    ⟨(some 54), .bin .gtr (.t 53) (.k (.int .i64 0)), (some (52, true)), [], false⟩,
                    ⟨(some 55), .pick (.t 52) (.t 54) (.k (.bool false)), none, [], false⟩,
                    ⟨(some 56), .mv (.t 55), none, [], false⟩,
                    ⟨(some 57), .fad 1 (.t 7), (some (56, false)), [], false⟩,
                    ⟨(some 58), .ld1 (.t 57), (some (56, false)), [], false⟩,
                    ⟨(some 59), .fad 1 (.t 3), (some (56, false)), [], false⟩,
                    ⟨(some 60), .ld1 (.t 59), (some (56, false)), [], false⟩,
                    ⟨(some 61), .bin .leq (.t 58) (.t 60), (some (56, false)), [], false⟩,
                    ⟨(some 62), .mv (.t 61), (some (56, false)), [], false⟩,
                    ⟨(some 63), .fad 1 (.t 3), (some (62, true)), [], false⟩,
                    ⟨(some 64), .ld1 (.t 63), (some (62, true)), [], false⟩,
                    ⟨(some 65), .fad 1 (.t 8), (some (62, true)), [], false⟩,
                    ⟨(some 66), .ld1 (.t 65), (some (62, true)), [], false⟩,
                    ⟨(some 67), .bin .lss (.t 64) (.t 66), (some (62, true)), [], false⟩,
                    ⟨(some 68), .pick (.t 62) (.t 67) (.k (.bool false)), (some (56, false)), [], false⟩,
                    ⟨(some 69), .mv (.t 68), (some (56, false)), [], false⟩,
                    ⟨(some 70), .mv (.t 9), (some (69, true)), [], false⟩,
                    ⟨(some 71), .bin .lss (.t 70) (.k (.int .i64 0)), (some (69, true)), [], false⟩,
                    ⟨(some 72), .pick (.t 69) (.t 71) (.k (.bool false)), (some (56, false)), [], false⟩,
                    ⟨(some 73), .pick (.t 56) (.k (.bool true)) (.t 72), none, [], false⟩])
                  (.cond (.t 73) (.reg [
                     ⟨(some 74), .mv (.t 5), none, [], false⟩,
                     ⟨(some 75), .un .neg (.t 74), none, [], false⟩,
                     ⟨(some 5), .mv (.t 75), none, [], false⟩])
                   (.skip))))))))
            (.reg [
              ⟨(some 76), .bin .add (.t 12) (.k (.int .i64 1)), none, [], false⟩,
              ⟨(some 12), .mv (.t 76), none, [], false⟩])))))))
      (.seq (.reg [
         ⟨(some 77), .mv (.t 5), none, [], false⟩,
         ⟨(some 4), .mv (.t 77), none, [], false⟩])
       (.ret))))
/-- skyway/polygon.Locate -/
def c42 : CF where
  np := 2
  nt := 21
  res := [.t 4, .t 5]
  code := .seq (.reg [
      ⟨(some 3), .box (.t 1), none, [], false⟩,
      ⟨(some 4), .mv (.k (.int .i64 0)), none, [], false⟩,
      ⟨(some 5), .mv (.k (.int .i64 0)), none, [], false⟩])
    (.seq (.seq (.reg [
        ⟨(some 8), .mv (.t 0), none, [], false⟩,
        ⟨(some 9), .call (.k (.fn 43 [])) [(.t 8)], none, [], false⟩,
        ⟨(some 6), .mv (.t 9), none, [], false⟩])
      (.seq (.reg [
         ⟨(some 10), .mv (.t 6), none, [], false⟩,
         ⟨(some 11), .bin .neq (.t 10) (.k (.int .i64 0)), none, [], false⟩])
       (.cond (.t 11) (.seq (.reg [
           ⟨(some 12), .mv (.t 6), none, [], false⟩,
           ⟨(some 4), .mv (.k (.int .i64 0)), none, [], false⟩,
           ⟨(some 5), .mv (.t 12), none, [], false⟩])
         (.ret))
        (.skip))))
     (.seq (.seq (.reg [
         ⟨(some 13), .ldn 2 (.t 3), none, [], false⟩,
         ⟨(some 14), .call (.k (.fn 66 [])) [(.t 13)], none, [], false⟩,
         ⟨(some 7), .mv (.t 14), none, [], false⟩])
       (.seq (.reg [
          ⟨(some 15), .mv (.t 7), none, [], false⟩,
          ⟨(some 16), .bin .neq (.t 15) (.k (.int .i64 0)), none, [], false⟩])
        (.cond (.t 16) (.seq (.reg [
            ⟨(some 17), .mv (.t 7), none, [], false⟩,
            ⟨(some 4), .mv (.k (.int .i64 0)), none, [], false⟩,
            ⟨(some 5), .mv (.t 17), none, [], false⟩])
          (.ret))
         (.skip))))
      (.seq (.reg [
         ⟨(some 18), .mv (.t 0), none, [], false⟩,
         ⟨(some 19), .ldn 2 (.t 3), none, [], false⟩,
         ⟨(some 20), .call (.k (.fn 70 [])) [(.t 18), (.t 19)], none, [], false⟩,
         ⟨(some 4), .mv (.t 20), none, [], false⟩,
         ⟨(some 5), .mv (.k (.int .i64 0)), none, [], false⟩])
       (.ret))))
/-- skyway/polygon.Area -/
def c69 : CF where
  np := 1
  nt := 12
  res := [.t 2, .t 3]
  code := .seq (.reg [
      ⟨(some 2), .mv (.k (.int .i64 0)), none, [], false⟩,
      ⟨(some 3), .mv (.k (.int .i64 0)), none, [], false⟩])
    (.seq (.seq (.reg [
        ⟨(some 5), .mv (.t 0), none, [], false⟩,
        ⟨(some 6), .call (.k (.fn 43 [])) [(.t 5)], none, [], false⟩,
        ⟨(some 4), .mv (.t 6), none, [], false⟩])
      (.seq (.reg [
         ⟨(some 7), .mv (.t 4), none, [], false⟩,
         ⟨(some 8), .bin .neq (.t 7) (.k (.int .i64 0)), none, [], false⟩])
       (.cond (.t 8) (.seq (.reg [
           ⟨(some 9), .mv (.t 4), none, [], false⟩,
           ⟨(some 2), .mv (.k (.int .i64 0)), none, [], false⟩,
           ⟨(some 3), .mv (.t 9), none, [], false⟩])
         (.ret))
        (.skip))))
     (.seq (.reg [
        ⟨(some 10), .mv (.t 0), none, [], false⟩,
        ⟨(some 11), .call (.k (.fn 73 [])) [(.t 10)], none, [], false⟩,
        ⟨(some 2), .mv (.t 11), none, [], false⟩,
        ⟨(some 3), .mv (.k (.int .i64 0)), none, [], false⟩])
      (.ret)))
/-- skyway/skywaylaw1.polygonWorks -/
def c41 : CF where
  np := 0
  nt := 40
  res := [.t 0]
  code := .seq (.reg [
      ⟨(some 0), .mv (.k (.bool false)), none, [], false⟩])
    (.seq (.reg [
       ⟨(some 6), .mk [.int .i64 0, .int .i64 0] [], none, [], false⟩,
       ⟨(some 7), .mk [.int .i64 0, .int .i64 0] [(0, 1, (.k (.int .i64 4)))], none, [], false⟩,
       ⟨(some 8), .mk [.int .i64 0, .int .i64 0] [(0, 1, (.k (.int .i64 4))), (1, 1, (.k (.int .i64 4)))], none, [], false⟩,
       ⟨(some 9), .mk [.int .i64 0, .int .i64 0] [(1, 1, (.k (.int .i64 4)))], none, [], false⟩,
       ⟨(some 10), .mks [.int .i64 0, .int .i64 0, .int .i64 0, .int .i64 0, .int .i64 0, .int .i64 0, .int .i64 0, .int .i64 0] 2 4 [(0, 2, (.t 6)), (2, 2, (.t 7)), (4, 2, (.t 8)), (6, 2, (.t 9))], none, [], false⟩,
       ⟨(some 1), .mv (.t 10), none, [], false⟩])
     (.seq (.reg [
        ⟨(some 12), .mv (.t 1), none, [], false⟩,
        ⟨(some 13), .mk [.int .i64 0, .int .i64 0] [(0, 1, (.k (.int .i64 1))), (1, 1, (.k (.int .i64 1)))], none, [], false⟩,
        ⟨(some 14), .call (.k (.fn 42 [])) [(.t 12), (.t 13)], none, [], false⟩,
        ⟨(some 11), .mv (.t 14), none, [], false⟩,
        ⟨(some 15), .ext (.t 11) 0, none, [], false⟩,
        ⟨(some 16), .ext (.t 11) 1, none, [], false⟩,
        ⟨(some 2), .mv (.t 15), none, [], false⟩,
        ⟨(some 3), .mv (.t 16), none, [], false⟩])
      (.seq (.reg [
         ⟨(some 18), .mv (.t 1), none, [], false⟩,
         ⟨(some 19), .call (.k (.fn 69 [])) [(.t 18)], none, [], false⟩,
         ⟨(some 17), .mv (.t 19), none, [], false⟩,
         ⟨(some 20), .ext (.t 17) 0, none, [], false⟩,
         ⟨(some 21), .ext (.t 17) 1, none, [], false⟩,
         ⟨(some 4), .mv (.t 20), none, [], false⟩,
         ⟨(some 5), .mv (.t 21), none, [], false⟩])
       (.seq (.reg [
          ⟨(some 22), .mv (.t 3), none, [], false⟩,
          ⟨(some 23), .bin .eql (.t 22) (.k (.int .i64 0)), none, [], false⟩,
          ⟨(some 24), .mv (.t 23), none, [], false⟩,
          ⟨(some 25), .mv (.t 2), (some (24, true)), [], false⟩,
          ⟨(some 26), .bin .eql (.t 25) (.k (.int .i64 1)), (some (24, true)), [], false⟩,
          ⟨(some 27), .pick (.t 24) (.t 26) (.k (.bool false)), none, [], false⟩,
          ⟨(some 28), .mv (.t 27), none, [], false⟩,
          ⟨(some 29), .mv (.t 5), (some (28, true)), [], false⟩,
          ⟨(some 30), .bin .eql (.t 29) (.k (.int .i64 0)), (some (28, true)), [], false⟩,
          ⟨(some 31), .pick (.t 28) (.t 30) (.k (.bool false)), none, [], false⟩,
          ⟨(some 32), .mv (.t 31), none, [], false⟩,
          ⟨(some 33), .mv (.t 4), (some (32, true)), [], false⟩,
          ⟨(some 34), .bin .eql (.t 33) (.k (.int .i64 32)), (some (32, true)), [], false⟩,
          ⟨(some 35), .pick (.t 32) (.t 34) (.k (.bool false)), none, [], false⟩,
          ⟨(some 36), .mv (.t 35), none, [], false⟩,
          ⟨(some 37), .call (.k (.fn 43 [])) [(.k (.sl true 0 0 0 0 0))], (some (36, true)), [], false⟩,
          ⟨(some 38), .bin .eql (.t 37) (.k (.int .i64 3)), (some (36, true)), [], false⟩,
          ⟨(some 39), .pick (.t 36) (.t 38) (.k (.bool false)), none, [], false⟩,
          ⟨(some 0), .mv (.t 39), none, [], false⟩])
        (.ret)))))
/-- skyway/skywayref1.Good -/
def c44 : CF where
  np := 1
  nt := 21
  res := [.t 2]
  code := .seq (.reg [
      ⟨(some 1), .box (.t 0), none, [], false⟩,
      ⟨(some 2), .mv (.k (.bool false)), none, [], false⟩])
    (.seq (.reg [
       ⟨(some 3), .fad 0 (.t 1), none, [], false⟩,
       ⟨(some 4), .ld1 (.t 3), none, [], false⟩,
       ⟨(some 5), .bin .geq (.t 4) (.k (.int .i64 (-1000000))), none, [], false⟩,
       ⟨(some 6), .mv (.t 5), none, [], false⟩,
       ⟨(some 7), .fad 0 (.t 1), (some (6, true)), [], false⟩,
       ⟨(some 8), .ld1 (.t 7), (some (6, true)), [], false⟩,
       ⟨(some 9), .bin .leq (.t 8) (.k (.int .i64 1000000)), (some (6, true)), [], false⟩,
       ⟨(some 10), .pick (.t 6) (.t 9) (.k (.bool false)), none, [], false⟩,
       ⟨(some 11), .mv (.t 10), none, [], false⟩,
       ⟨(some 12), .fad 1 (.t 1), (some (11, true)), [], false⟩,
       ⟨(some 13), .ld1 (.t 12), (some (11, true)), [], false⟩,
       ⟨(some 14), .bin .geq (.t 13) (.k (.int .i64 (-1000000))), (some (11, true)), [], false⟩,
       ⟨(some 15), .pick (.t 11) (.t 14) (.k (.bool false)), none, [], false⟩,
       ⟨(some 16), .mv (.t 15), none, [], false⟩,
       ⟨(some 17), .fad 1 (.t 1), (some (16, true)), [], false⟩,
       ⟨(some 18), .ld1 (.t 17), (some (16, true)), [], false⟩,
       ⟨(some 19), .bin .leq (.t 18) (.k (.int .i64 1000000)), (some (16, true)), [], false⟩,
       ⟨(some 20), .pick (.t 16) (.t 19) (.k (.bool false)), none, [], false⟩,
       ⟨(some 2), .mv (.t 20), none, [], false⟩])
     (.ret))
/-- skyway/skywayref1.Cross -/
def c75 : CF where
  np := 3
  nt := 30
  res := [.t 6]
  code := .seq (.reg [
      ⟨(some 3), .box (.t 0), none, [], false⟩,
      ⟨(some 4), .box (.t 1), none, [], false⟩,
      ⟨(some 5), .box (.t 2), none, [], false⟩,
      ⟨(some 6), .mv (.k (.int .i64 0)), none, [], false⟩])
    (.seq (.reg [
       ⟨(some 7), .fad 0 (.t 4), none, [], false⟩,
       ⟨(some 8), .ld1 (.t 7), none, [], false⟩,
       ⟨(some 9), .fad 0 (.t 3), none, [], false⟩,
       ⟨(some 10), .ld1 (.t 9), none, [], false⟩,
       ⟨(some 11), .bin .sub (.t 8) (.t 10), none, [], false⟩,
       ⟨(some 12), .fad 1 (.t 5), none, [], false⟩,
       ⟨(some 13), .ld1 (.t 12), none, [], false⟩,
       ⟨(some 14), .fad 1 (.t 3), none, [], false⟩,
       ⟨(some 15), .ld1 (.t 14), none, [], false⟩,
       ⟨(some 16), .bin .sub (.t 13) (.t 15), none, [], false⟩,
       ⟨(some 17), .bin .mul (.t 11) (.t 16), none, [], false⟩,
       ⟨(some 18), .fad 1 (.t 4), none, [], false⟩,
       ⟨(some 19), .ld1 (.t 18), none, [], false⟩,
       ⟨(some 20), .fad 1 (.t 3), none, [], false⟩,
       ⟨(some 21), .ld1 (.t 20), none, [], false⟩,
       ⟨(some 22), .bin .sub (.t 19) (.t 21), none, [], false⟩,
       ⟨(some 23), .fad 0 (.t 5), none, [], false⟩,
       ⟨(some 24), .ld1 (.t 23), none, [], false⟩,
       ⟨(some 25), .fad 0 (.t 3), none, [], false⟩,
       ⟨(some 26), .ld1 (.t 25), none, [], false⟩,
       ⟨(some 27), .bin .sub (.t 24) (.t 26), none, [], false⟩,
       ⟨(some 28), .bin .mul (.t 22) (.t 27), none, [], false⟩,
       ⟨(some 29), .bin .sub (.t 17) (.t 28), none, [], false⟩,
       ⟨(some 6), .mv (.t 29), none, [], false⟩])
     (.ret))
/-- skyway/skywayref1.OnEdge -/
def c74 : CF where
  np := 3
  nt := 52
  res := [.t 6]
  code := .seq (.reg [
      ⟨(some 3), .box (.t 0), none, [], false⟩,
      ⟨(some 4), .box (.t 1), none, [], false⟩,
      ⟨(some 5), .box (.t 2), none, [], false⟩,
      ⟨(some 6), .mv (.k (.bool false)), none, [], false⟩])
    (.seq (.reg [
       ⟨(some 7), .ldn 2 (.t 3), none, [], false⟩,
       ⟨(some 8), .ldn 2 (.t 4), none, [], false⟩,
       ⟨(some 9), .ldn 2 (.t 5), none, [], false⟩,
       ⟨(some 10), .call (.k (.fn 75 [])) [(.t 7), (.t 8), (.t 9)], none, [], false⟩,
       ⟨(some 11), .bin .eql (.t 10) (.k (.int .i64 0)), none, [], false⟩,
       ⟨(some 12), .mv (.t 11), none, [], false⟩,
       ⟨(some 13), .fad 0 (.t 3), (some (12, true)), [], false⟩,
       ⟨(some 14), .ld1 (.t 13), (some (12, true)), [], false⟩,
       ⟨(some 15), .fad 0 (.t 4), (some (12, true)), [], false⟩,
       ⟨(some 16), .ld1 (.t 15), (some (12, true)), [], false⟩,
       ⟨(some 17), .mnx false (.t 14) [(.t 16)], (some (12, true)), [], false⟩,
       ⟨(some 18), .fad 0 (.t 5), (some (12, true)), [], false⟩,
       ⟨(some 19), .ld1 (.t 18), (some (12, true)), [], false⟩,
       ⟨(some 20), .bin .leq (.t 17) (.t 19), (some (12, true)), [], false⟩,
       ⟨(some 21), .pick (.t 12) (.t 20) (.k (.bool false)), none, [], false⟩,
       ⟨(some 22), .mv (.t 21), none, [], false⟩,
       ⟨(some 23), .fad 0 (.t 5), (some (22, true)), [], false⟩,
       ⟨(some 24), .ld1 (.t 23), (some (22, true)), [], false⟩,
       ⟨(some 25), .fad 0 (.t 3), (some (22, true)), [], false⟩,
       ⟨(some 26), .ld1 (.t 25), (some (22, true)), [], false⟩,
       ⟨(some 27), .fad 0 (.t 4), (some (22, true)), [], false⟩,
       ⟨(some 28), .ld1 (.t 27), (some (22, true)), [], false⟩,
       ⟨(some 29), .mnx true (.t 26) [(.t 28)], (some (22, true)), [], false⟩,
       ⟨(some 30), .bin .leq (.t 24) (.t 29), (some (22, true)), [], false⟩,
       ⟨(some 31), .pick (.t 22) (.t 30) (.k (.bool false)), none, [], false⟩,
       ⟨(some 32), .mv (.t 31), none, [], false⟩,
       ⟨(some 33), .fad 1 (.t 3), (some (32, true)), [], false⟩,
       ⟨(some 34), .ld1 (.t 33), (some (32, true)), [], false⟩,
       ⟨(some 35), .fad 1 (.t 4), (some (32, true)), [], false⟩,
       ⟨(some 36), .ld1 (.t 35), (some (32, true)), [], false⟩,
       ⟨(some 37), .mnx false (.t 34) [(.t 36)], (some (32, true)), [], false⟩,
       ⟨(some 38), .fad 1 (.t 5), (some (32, true)), [], false⟩,
       ⟨(some 39), .ld1 (.t 38), (some (32, true)), [], false⟩,
       ⟨(some 40), .bin .leq (.t 37) (.t 39), (some (32, true)), [], false⟩,
       ⟨(some 41), .pick (.t 32) (.t 40) (.k (.bool false)), none, [], false⟩,
       ⟨(some 42), .mv (.t 41), none, [], false⟩,
       ⟨(some 43), .fad 1 (.t 5), (some (42, true)), [], false⟩,
       ⟨(some 44), .ld1 (.t 43), (some (42, true)), [], false⟩,
       ⟨(some 45), .fad 1 (.t 3), (some (42, true)), [], false⟩,
       ⟨(some 46), .ld1 (.t 45), (some (42, true)), [], false⟩,
       ⟨(some 47), .fad 1 (.t 4), (some (42, true)), [], false⟩,
       ⟨(some 48), .ld1 (.t 47), (some (42, true)), [], false⟩,
       ⟨(some 49), .mnx true (.t 46) [(.t 48)], (some (42, true)), [], false⟩,
       ⟨(some 50), .bin .leq (.t 44) (.t 49), (some (42, true)), [], false⟩,
       ⟨(some 51), .pick (.t 42) (.t 50) (.k (.bool false)), none, [], false⟩,
       ⟨(some 6), .mv (.t 51), none, [], false⟩])
     (.ret))
/-- skyway/skywayref1.Place -/
def c45 : CF where
  np := 2
  nt := 63
  res := [.t 4]
  code := .seq (.reg [
      ⟨(some 3), .box (.t 1), none, [], false⟩,
      ⟨(some 4), .mv (.k (.int .i64 0)), none, [], false⟩])
    (.seq (.reg [
       ⟨(some 5), .mv (.k (.int .i64 0)), none, [], false⟩])
     (.seq (.seq (.reg [
         ⟨(some 9), .mv (.t 0), none, [], false⟩,
         ⟨(some 10), .lenv false (.t 9), none, [], false⟩,
         ⟨(some 11), .mv (.k (.int .i64 0)), none, [], false⟩])
       (.blk 0 (.loop (.seq (.reg [
            ⟨(some 12), .bin .lss (.t 11) (.t 10), none, [], false⟩])
          (.seq (.cond (.t 12) (.skip)
            (.exit 0))
           (.seq (.blk 1 (.seq (.reg [
                ⟨(some 13), .mv (.t 11), none, [], false⟩,
                ⟨(some 14), .iad 2 (.t 9) (.t 11), none, [], false⟩,
                ⟨(some 15), .ldn 2 (.t 14), none, [], false⟩,
                ⟨(some 7), .new [.int .i64 0, .int .i64 0], none, [], false⟩,
                ⟨(some 6), .mv (.t 13), none, [], false⟩,
                ⟨none, .st 2 (.t 7) (.t 15), none, [], false⟩])
              (.seq (.reg [
                 ⟨(some 16), .mv (.t 0), none, [], false⟩,
                 ⟨(some 17), .mv (.t 6), none, [], false⟩,
                 ⟨(some 18), .mv (.t 0), none, [], false⟩,
                 ⟨(some 19), .lenv false (.t 18), none, [], false⟩,
                 ⟨(some 20), .bin .add (.t 17) (.t 19), none, [], false⟩,
                 ⟨(some 21), .bin .sub (.t 20) (.k (.int .i64 1)), none, [], false⟩,
                 ⟨(some 22), .mv (.t 0), none, [], false⟩,
                 ⟨(some 23), .lenv false (.t 22), none, [], false⟩,
                 ⟨(some 24), .bin .rem (.t 21) (.t 23), none, [], false⟩,
                 ⟨(some 25), .iad 2 (.t 16) (.t 24), none, [], false⟩,
                 ⟨(some 26), .ldn 2 (.t 25), none, [], false⟩,
                 ⟨(some 8), .new [.int .i64 0, .int .i64 0], none, [], false⟩,
                 ⟨none, .st 2 (.t 8) (.t 26), none, [], false⟩])
               (.seq (.seq (.reg [
                   ⟨(some 27), .ldn 2 (.t 8), none, [], false⟩,
                   ⟨(some 28), .ldn 2 (.t 7), none, [], false⟩,
                   ⟨(some 29), .ldn 2 (.t 3), none, [], false⟩,
                   ⟨(some 30), .call (.k (.fn 74 [])) [(.t 27), (.t 28), (.t 29)], none, [], false⟩])
                 (.cond (.t 30) (.seq (.reg [
                     ⟨(some 4), .mv (.k (.int .i64 0)), none, [], false⟩])
                   (.ret))
                  (.skip)))
                (.seq (.seq (.reg [
                    ⟨(some 31), .fad 0 (.t 8), none, [], false⟩,
                    ⟨(some 32), .ld1 (.t 31), none, [], false⟩,
                    ⟨(some 33), .fad 0 (.t 7), none, [], false⟩,
                    ⟨(some 34), .ld1 (.t 33), none, [], false⟩,
                    ⟨(some 35), .bin .gtr (.t 32) (.t 34), none, [], false⟩])
                  (.cond (.t 35) (.reg [
                     ⟨(some 36), .ldn 2 (.t 7), none, [], false⟩,
                     ⟨(some 37), .ldn 2 (.t 8), none, [], false⟩,
                     ⟨none, .st 2 (.t 8) (.t 36), none, [], false⟩,
                     ⟨none, .st 2 (.t 7) (.t 37), none, [], false⟩])
                   (.skip)))
                 (.seq (.reg [
                    ⟨(some 38), .fad 0 (.t 8), none, [], false⟩,
                    ⟨(some 39), .ld1 (.t 38), none, [], false⟩,
                    ⟨(some 40), .fad 0 (.t 3), none, [], false⟩,
                    ⟨(some 41), .ld1 (.t 40), none, [], false⟩,
                    ⟨(some 42), .bin .leq (.t 39) (.t 41), none, [], false⟩,
                    ⟨(some 43), .mv (.t 42), none, [], false⟩,
                    ⟨(some 44), .fad 0 (.t 3), (some (43, true)), [], false⟩,
                    ⟨(some 45), .ld1 (.t 44), (some (43, true)), [], false⟩,
                    ⟨(some 46), .fad 0 (.t 7), (some (43, true)), [], false⟩,
                    ⟨(some 47), .ld1 (.t 46), (some (43, true)), [], false⟩,
                    ⟨(some 48), .bin .lss (.t 45) (.t 47), (some (43, true)), [], false⟩,
                    ⟨(some 49), .pick (.t 43) (.t 48) (.k (.bool false)), none, [], false⟩,
                    ⟨(some 50), .mv (.t 49), none, [], false⟩,
                    ⟨(some 51), .ldn 2 (.t 8), (some (50, true)), [], false⟩,
                    ⟨(some 52), .ldn 2 (.t 7), (some (50, true)), [], false⟩,
                    ⟨(some 53), .ldn 2 (.t 3), (some (50, true)), [], false⟩,
                    ⟨(some 54), .call (.k (.fn 75 [])) [(.t 51), (.t 52), (.t 53)], (some (50, true)), [], false⟩,
                    ⟨(some 55), .bin .lss (.t 54) (.k (.int .i64 0)), (some (50, true)), [], false⟩,
                    ⟨(some 56), .pick (.t 50) (.t 55) (.k (.bool false)), none, [], false⟩])
                  (.cond (.t 56) (.reg [
                     ⟨(some 57), .mv (.t 5), none, [], false⟩,
                     ⟨(some 58), .bin .add (.t 57) (.k (.int .i64 1)), none, [], false⟩,
                     ⟨(some 5), .mv (.t 58), none, [], false⟩])
                   (.skip))))))))
            (.reg [
              ⟨(some 59), .bin .add (.t 11) (.k (.int .i64 1)), none, [], false⟩,
              ⟨(some 11), .mv (.t 59), none, [], false⟩])))))))
      (.seq (.seq (.reg [
          ⟨(some 60), .mv (.t 5), none, [], false⟩,
          ⟨(some 61), .bin .rem (.t 60) (.k (.int .i64 2)), none, [], false⟩,
          ⟨(some 62), .bin .eql (.t 61) (.k (.int .i64 1)), none, [], false⟩])
        (.cond (.t 62) (.seq (.reg [
            ⟨(some 4), .mv (.k (.int .i64 1)), none, [], false⟩])
          (.ret))
         (.skip)))
       (.seq (.reg [
          ⟨(some 4), .mv (.k (.int .i64 (-1))), none, [], false⟩])
        (.ret)))))
/-- skyway/skywaylaw1.PolygonPlaces -/
def c14 : CF where
  np := 2
  nt := 45
  res := [.t 4]
  code := .seq (.reg [
      ⟨(some 3), .box (.t 1), none, [], false⟩,
      ⟨(some 4), .mv (.k (.bool false)), none, [], false⟩])
    (.seq (.seq (.reg [
        ⟨(some 8), .call (.k (.fn 41 [])) [], none, [], false⟩,
        ⟨(some 9), .un .not (.t 8), none, [], false⟩])
      (.cond (.t 9) (.seq (.reg [
          ⟨(some 4), .mv (.k (.bool false)), none, [], false⟩])
        (.ret))
       (.skip)))
     (.seq (.reg [
        ⟨(some 11), .mv (.t 0), none, [], false⟩,
        ⟨(some 12), .ldn 2 (.t 3), none, [], false⟩,
        ⟨(some 13), .call (.k (.fn 42 [])) [(.t 11), (.t 12)], none, [], false⟩,
        ⟨(some 10), .mv (.t 13), none, [], false⟩,
        ⟨(some 14), .ext (.t 10) 0, none, [], false⟩,
        ⟨(some 15), .ext (.t 10) 1, none, [], false⟩,
        ⟨(some 5), .mv (.t 14), none, [], false⟩,
        ⟨(some 6), .mv (.t 15), none, [], false⟩])
      (.seq (.seq (.reg [
          ⟨(some 16), .mv (.t 0), none, [], false⟩,
          ⟨(some 17), .call (.k (.fn 43 [])) [(.t 16)], none, [], false⟩,
          ⟨(some 7), .mv (.t 17), none, [], false⟩])
        (.seq (.reg [
           ⟨(some 18), .mv (.t 7), none, [], false⟩,
           ⟨(some 19), .bin .neq (.t 18) (.k (.int .i64 0)), none, [], false⟩])
         (.cond (.t 19) (.seq (.reg [
             ⟨(some 20), .mv (.t 6), none, [], false⟩,
             ⟨(some 21), .mv (.t 7), none, [], false⟩,
             ⟨(some 22), .bin .eql (.t 20) (.t 21), none, [], false⟩,
             ⟨(some 23), .mv (.t 22), none, [], false⟩,
             ⟨(some 24), .mv (.t 5), (some (23, true)), [], false⟩,
             ⟨(some 25), .bin .eql (.t 24) (.k (.int .i64 0)), (some (23, true)), [], false⟩,
             ⟨(some 26), .pick (.t 23) (.t 25) (.k (.bool false)), none, [], false⟩,
             ⟨(some 4), .mv (.t 26), none, [], false⟩])
           (.ret))
          (.skip))))
       (.seq (.seq (.reg [
           ⟨(some 27), .ldn 2 (.t 3), none, [], false⟩,
           ⟨(some 28), .call (.k (.fn 44 [])) [(.t 27)], none, [], false⟩,
           ⟨(some 29), .un .not (.t 28), none, [], false⟩])
         (.cond (.t 29) (.seq (.reg [
             ⟨(some 30), .mv (.t 6), none, [], false⟩,
             ⟨(some 31), .bin .eql (.t 30) (.k (.int .i64 4)), none, [], false⟩,
             ⟨(some 32), .mv (.t 31), none, [], false⟩,
             ⟨(some 33), .mv (.t 5), (some (32, true)), [], false⟩,
             ⟨(some 34), .bin .eql (.t 33) (.k (.int .i64 0)), (some (32, true)), [], false⟩,
             ⟨(some 35), .pick (.t 32) (.t 34) (.k (.bool false)), none, [], false⟩,
             ⟨(some 4), .mv (.t 35), none, [], false⟩])
           (.ret))
          (.skip)))
        (.seq (.reg [
           ⟨(some 36), .mv (.t 6), none, [], false⟩,
           ⟨(some 37), .bin .eql (.t 36) (.k (.int .i64 0)), none, [], false⟩,
           ⟨(some 38), .mv (.t 37), none, [], false⟩,
           ⟨(some 39), .mv (.t 5), (some (38, true)), [], false⟩,
           ⟨(some 40), .mv (.t 0), (some (38, true)), [], false⟩,
           ⟨(some 41), .ldn 2 (.t 3), (some (38, true)), [], false⟩,
           ⟨(some 42), .call (.k (.fn 45 [])) [(.t 40), (.t 41)], (some (38, true)), [], false⟩,
           ⟨(some 43), .bin .eql (.t 39) (.t 42), (some (38, true)), [], false⟩,
           ⟨(some 44), .pick (.t 38) (.t 43) (.k (.bool false)), none, [], false⟩,
           ⟨(some 4), .mv (.t 44), none, [], false⟩])
         (.ret))))))
theorem ok11 : cFunc Try.prog Try.f11 = some c11 := by kernel_rfl
theorem ok36 : cFunc Try.prog Try.f36 = some c36 := by kernel_rfl
theorem ok61 : cFunc Try.prog Try.f61 = some c61 := by kernel_rfl
theorem ok83 : cFunc Try.prog Try.f83 = some c83 := by kernel_rfl
theorem ok84 : cFunc Try.prog Try.f84 = some c84 := by kernel_rfl
theorem ok62 : cFunc Try.prog Try.f62 = some c62 := by kernel_rfl
theorem ok63 : cFunc Try.prog Try.f63 = some c63 := by kernel_rfl
theorem ok35 : cFunc Try.prog Try.f35 = some c35 := by kernel_rfl
theorem ok12 : cFunc Try.prog Try.f12 = some c12 := by kernel_rfl
theorem ok64 : cFunc Try.prog Try.f64 = some c64 := by kernel_rfl
theorem ok66 : cFunc Try.prog Try.f66 = some c66 := by kernel_rfl
theorem ok39 : cFunc Try.prog Try.f39 = some c39 := by kernel_rfl
theorem ok85 : cFunc Try.prog Try.f85 = some c85 := by kernel_rfl
theorem ok86 : cFunc Try.prog Try.f86 = some c86 := by kernel_rfl
theorem ok87 : cFunc Try.prog Try.f87 = some c87 := by kernel_rfl
theorem ok65 : cFunc Try.prog Try.f65 = some c65 := by kernel_rfl
theorem ok38 : cFunc Try.prog Try.f38 = some c38 := by kernel_rfl
theorem ok37 : cFunc Try.prog Try.f37 = some c37 := by kernel_rfl
theorem ok88 : cFunc Try.prog Try.f88 = some c88 := by kernel_rfl
theorem ok67 : cFunc Try.prog Try.f67 = some c67 := by kernel_rfl
theorem ok89 : cFunc Try.prog Try.f89 = some c89 := by kernel_rfl
theorem ok68 : cFunc Try.prog Try.f68 = some c68 := by kernel_rfl
theorem ok40 : cFunc Try.prog Try.f40 = some c40 := by kernel_rfl
theorem ok13 : cFunc Try.prog Try.f13 = some c13 := by kernel_rfl
theorem ok92 : cFunc Try.prog Try.f92 = some c92 := by kernel_rfl
theorem ok91 : cFunc Try.prog Try.f91 = some c91 := by kernel_rfl
theorem ok71 : cFunc Try.prog Try.f71 = some c71 := by kernel_rfl
theorem ok93 : cFunc Try.prog Try.f93 = some c93 := by kernel_rfl
theorem ok90 : cFunc Try.prog Try.f90 = some c90 := by kernel_rfl
theorem ok72 : cFunc Try.prog Try.f72 = some c72 := by kernel_rfl
theorem ok73 : cFunc Try.prog Try.f73 = some c73 := by kernel_rfl
theorem ok43 : cFunc Try.prog Try.f43 = some c43 := by kernel_rfl
theorem ok70 : cFunc Try.prog Try.f70 = some c70 := by kernel_rfl
theorem ok42 : cFunc Try.prog Try.f42 = some c42 := by kernel_rfl
theorem ok69 : cFunc Try.prog Try.f69 = some c69 := by kernel_rfl
theorem ok41 : cFunc Try.prog Try.f41 = some c41 := by kernel_rfl
theorem ok44 : cFunc Try.prog Try.f44 = some c44 := by kernel_rfl
theorem ok75 : cFunc Try.prog Try.f75 = some c75 := by kernel_rfl
theorem ok74 : cFunc Try.prog Try.f74 = some c74 := by kernel_rfl
theorem ok45 : cFunc Try.prog Try.f45 = some c45 := by kernel_rfl
theorem ok14 : cFunc Try.prog Try.f14 = some c14 := by kernel_rfl
end Go.Proofs.Ytpcmmbbkidojoaa.CodeAll
