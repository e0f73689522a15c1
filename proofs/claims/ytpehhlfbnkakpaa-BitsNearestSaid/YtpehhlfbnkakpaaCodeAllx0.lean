/- The code of functions of the program, for the abstract machine; each is what the function is turned into. No condition. -/
import Derived.Test.YtpehhlfbnkakpaaEvaO
import Derived.Test.YtpehhlfbnkakpaaChecked
import Derived.KernelRfl
namespace Go.Proofs.Ytpehhlfbnkakpaa.CodeAll
open Go Go.Proofs.Ytpehhlfbnkakpaa.Eva
/-- skyway/plane.Check -/
def c57 : CF where
  np := 1
  nt := 21
  res := [.t 2]
  code := .seq (.reg [
      ⟨(some 1), .box (.t 0), none, [], false⟩,
      ⟨(some 2), .mv (.k (.int .i64 0)), none, [], false⟩])
    (.seq (.seq (.reg [
        ⟨(some 3), .fad 0 (.t 1), none, [], false⟩,
        ⟨(some 4), .ld1 (.t 3), none, [], false⟩,
        ⟨(some 5), .bin .lss (.t 4) (.k (.int .i64 (-1000000))), none, [], false⟩,
        ⟨(some 6), .mv (.t 5), none, [], false⟩,
        ⟨(some 7), .fad 0 (.t 1), (some (6, false)), [], false⟩,
        ⟨(some 8), .ld1 (.t 7), (some (6, false)), [], false⟩,
        ⟨(some 9), .bin .gtr (.t 8) (.k (.int .i64 1000000)), (some (6, false)), [], false⟩,
        ⟨(some 10), .pick (.t 6) (.k (.bool true)) (.t 9), none, [], false⟩,
        ⟨(some 11), .mv (.t 10), none, [], false⟩,
        ⟨(some 12), .fad 1 (.t 1), (some (11, false)), [], false⟩,
        ⟨(some 13), .ld1 (.t 12), (some (11, false)), [], false⟩,
        ⟨(some 14), .bin .lss (.t 13) (.k (.int .i64 (-1000000))), (some (11, false)), [], false⟩,
        ⟨(some 15), .pick (.t 11) (.k (.bool true)) (.t 14), none, [], false⟩,
        ⟨(some 16), .mv (.t 15), none, [], false⟩,
        ⟨(some 17), .fad 1 (.t 1), (some (16, false)), [], false⟩,
        ⟨(some 18), .ld1 (.t 17), (some (16, false)), [], false⟩,
        ⟨(some 19), .bin .gtr (.t 18) (.k (.int .i64 1000000)), (some (16, false)), [], false⟩,
        ⟨(some 20), .pick (.t 16) (.k (.bool true)) (.t 19), none, [], false⟩])
      (.cond (.t 20) (.seq (.reg [
          ⟨(some 2), .mv (.k (.int .i64 4)), none, [], false⟩])
        (.ret))
       (.skip)))
     (.seq (.reg [
        ⟨(some 2), .mv (.k (.int .i64 0)), none, [], false⟩])
      (.ret)))
/-- skyway/num.DivDown -/
def c58 : CF where
  np := 2
  nt := 34
  res := [.t 4, .t 5]
  code := .seq (.reg [
      ⟨(some 4), .mv (.k (.int .i64 0)), none, [], false⟩,
      ⟨(some 5), .mv (.k (.int .i64 0)), none, [], false⟩])
    (.seq (.blk 0 (.seq (.reg [
         ⟨(some 8), .mv (.t 1), none, [], false⟩,
         ⟨(some 9), .bin .eql (.t 8) (.k (.int .i64 0)), none, [], false⟩,
         ⟨(some 7), .mv (.t 9), none, [], false⟩])
       (.cond (.t 7) (.seq (.reg [
           ⟨(some 4), .mv (.k (.int .i64 0)), none, [], false⟩,
           ⟨(some 5), .mv (.k (.int .i64 10)), none, [], false⟩])
         (.ret))
        (.seq (.reg [
           ⟨(some 11), .mv (.t 0), none, [], false⟩,
           ⟨(some 12), .bin .eql (.t 11) (.k (.int .i64 (-9223372036854775808))), none, [], false⟩,
           ⟨(some 13), .mv (.t 12), none, [], false⟩,
           ⟨(some 14), .mv (.t 1), (some (13, true)), [], false⟩,
           ⟨(some 15), .bin .eql (.t 14) (.k (.int .i64 (-1))), (some (13, true)), [], false⟩,
           ⟨(some 16), .pick (.t 13) (.t 15) (.k (.bool false)), none, [], false⟩,
           ⟨(some 10), .mv (.t 16), none, [], false⟩])
         (.cond (.t 10) (.seq (.reg [
             ⟨(some 4), .mv (.k (.int .i64 0)), none, [], false⟩,
             ⟨(some 5), .mv (.k (.int .i64 2)), none, [], false⟩])
           (.ret))
          (.skip))))))
     (.seq (.reg [
        ⟨(some 17), .mv (.t 0), none, [], false⟩,
        ⟨(some 18), .mv (.t 1), none, [], false⟩,
        ⟨(some 19), .bin .quo (.t 17) (.t 18), none, [], false⟩,
        ⟨(some 6), .mv (.t 19), none, [], false⟩])
      (.seq (.seq (.reg [
          ⟨(some 20), .mv (.t 0), none, [], false⟩,
          ⟨(some 21), .mv (.t 1), none, [], false⟩,
          ⟨(some 22), .bin .rem (.t 20) (.t 21), none, [], false⟩,
          ⟨(some 23), .bin .neq (.t 22) (.k (.int .i64 0)), none, [], false⟩,
          ⟨(some 24), .mv (.t 23), none, [], false⟩,
          ⟨(some 25), .mv (.t 0), (some (24, true)), [], false⟩,
          ⟨(some 26), .bin .lss (.t 25) (.k (.int .i64 0)), (some (24, true)), [], false⟩,
          ⟨(some 27), .mv (.t 1), (some (24, true)), [], false⟩,
          ⟨(some 28), .bin .lss (.t 27) (.k (.int .i64 0)), (some (24, true)), [], false⟩,
          ⟨(some 29), .eqs true none (.t 26) (.t 28), (some (24, true)), [], false⟩,
          ⟨(some 30), .pick (.t 24) (.t 29) (.k (.bool false)), none, [], false⟩])
        (.cond (.t 30) (.reg [
           ⟨(some 31), .mv (.t 6), none, [], false⟩,
           ⟨(some 32), .bin .sub (.t 31) (.k (.int .i64 1)), none, [], false⟩,
           ⟨(some 6), .mv (.t 32), none, [], false⟩])
         (.skip)))
       (.seq (.reg [
          ⟨(some 33), .mv (.t 6), none, [], false⟩,
          ⟨(some 4), .mv (.t 33), none, [], false⟩,
          ⟨(some 5), .mv (.k (.int .i64 0)), none, [], false⟩])
        (.ret)))))
/-- skyway/plane.Toward -/
def c16 : CF where
  np := 4
  nt := 74
  res := [.cn 2 8, .t 9]
  code := .seq (.reg [
      ⟨(some 4), .box (.t 0), none, [], false⟩,
      ⟨(some 5), .box (.t 1), none, [], false⟩,
      ⟨(some 8), .new [.int .i64 0, .int .i64 0], none, [], false⟩,
      ⟨(some 9), .mv (.k (.int .i64 0)), none, [], false⟩])
    (.seq (.blk 0 (.seq (.reg [
         ⟨(some 15), .mv (.t 3), none, [], false⟩,
         ⟨(some 16), .bin .leq (.t 15) (.k (.int .i64 0)), none, [], false⟩,
         ⟨(some 14), .mv (.t 16), none, [], false⟩])
       (.cond (.t 14) (.seq (.reg [
           ⟨(some 17), .mk [.int .i64 0, .int .i64 0] [], none, [], false⟩,
           ⟨none, .st 2 (.t 8) (.t 17), none, [], false⟩,
           ⟨(some 9), .mv (.k (.int .i64 10)), none, [], false⟩])
         (.ret))
        (.seq (.reg [
           ⟨(some 19), .mv (.t 3), none, [], false⟩,
           ⟨(some 20), .bin .gtr (.t 19) (.k (.int .i64 200000)), none, [], false⟩,
           ⟨(some 21), .mv (.t 20), none, [], false⟩,
           ⟨(some 22), .mv (.t 2), (some (21, false)), [], false⟩,
           ⟨(some 23), .bin .lss (.t 22) (.k (.int .i64 0)), (some (21, false)), [], false⟩,
           ⟨(some 24), .pick (.t 21) (.k (.bool true)) (.t 23), none, [], false⟩,
           ⟨(some 25), .mv (.t 24), none, [], false⟩,
           ⟨(some 26), .mv (.t 2), (some (25, false)), [], false⟩,
           ⟨(some 27), .mv (.t 3), (some (25, false)), [], false⟩,
           ⟨(some 28), .bin .gtr (.t 26) (.t 27), (some (25, false)), [], false⟩,
           ⟨(some 29), .pick (.t 25) (.k (.bool true)) (.t 28), none, [], false⟩,
           ⟨(some 30), .mv (.t 29), none, [], false⟩,
           ⟨(some 31), .ldn 2 (.t 4), (some (30, false)), [], false⟩,
           ⟨(some 32), .call (.k (.fn 57 [])) [(.t 31)], (some (30, false)), [], false⟩,
           ⟨(some 33), .bin .neq (.t 32) (.k (.int .i64 0)), (some (30, false)), [], false⟩,
           ⟨(some 34), .pick (.t 30) (.k (.bool true)) (.t 33), none, [], false⟩,
           ⟨(some 35), .mv (.t 34), none, [], false⟩,
           ⟨(some 36), .ldn 2 (.t 5), (some (35, false)), [], false⟩,
           ⟨(some 37), .call (.k (.fn 57 [])) [(.t 36)], (some (35, false)), [], false⟩,
           ⟨(some 38), .bin .neq (.t 37) (.k (.int .i64 0)), (some (35, false)), [], false⟩,
           ⟨(some 39), .pick (.t 35) (.k (.bool true)) (.t 38), none, [], false⟩,
           ⟨(some 18), .mv (.t 39), none, [], false⟩])
         (.cond (.t 18) (.seq (.reg [
             ⟨(some 40), .mk [.int .i64 0, .int .i64 0] [], none, [], false⟩,
             ⟨none, .st 2 (.t 8) (.t 40), none, [], false⟩,
             ⟨(some 9), .mv (.k (.int .i64 4)), none, [], false⟩])
           (.ret))
          (.skip))))))
     (.seq (.reg [
        ⟨(some 42), .fad 0 (.t 5), none, [], false⟩,
        ⟨(some 43), .ld1 (.t 42), none, [], false⟩,
        ⟨(some 44), .fad 0 (.t 4), none, [], false⟩,
        ⟨(some 45), .ld1 (.t 44), none, [], false⟩,
        ⟨(some 46), .bin .sub (.t 43) (.t 45), none, [], false⟩,
        ⟨(some 47), .mv (.t 2), none, [], false⟩,
        ⟨(some 48), .bin .mul (.t 46) (.t 47), none, [], false⟩,
        ⟨(some 49), .mv (.t 3), none, [], false⟩,
        ⟨(some 50), .call (.k (.fn 58 [])) [(.t 48), (.t 49)], none, [], false⟩,
        ⟨(some 41), .mv (.t 50), none, [], false⟩,
        ⟨(some 51), .ext (.t 41) 0, none, [], false⟩,
        ⟨(some 52), .ext (.t 41) 1, none, [], false⟩,
        ⟨(some 10), .mv (.t 51), none, [], false⟩,
        ⟨(some 11), .mv (.t 52), none, [], false⟩])
      (.seq (.reg [
         ⟨(some 54), .fad 1 (.t 5), none, [], false⟩,
         ⟨(some 55), .ld1 (.t 54), none, [], false⟩,
         ⟨(some 56), .fad 1 (.t 4), none, [], false⟩,
         ⟨(some 57), .ld1 (.t 56), none, [], false⟩,
         ⟨(some 58), .bin .sub (.t 55) (.t 57), none, [], false⟩,
         ⟨(some 59), .mv (.t 2), none, [], false⟩,
         ⟨(some 60), .bin .mul (.t 58) (.t 59), none, [], false⟩,
         ⟨(some 61), .mv (.t 3), none, [], false⟩,
         ⟨(some 62), .call (.k (.fn 58 [])) [(.t 60), (.t 61)], none, [], false⟩,
         ⟨(some 53), .mv (.t 62), none, [], false⟩,
         ⟨(some 63), .ext (.t 53) 0, none, [], false⟩,
         ⟨(some 64), .ext (.t 53) 1, none, [], false⟩,
         ⟨(some 12), .mv (.t 63), none, [], false⟩,
         ⟨(some 13), .mv (.t 64), none, [], false⟩])
       (.seq (.reg [
          ⟨(some 65), .fad 0 (.t 4), none, [], false⟩,
          ⟨(some 66), .ld1 (.t 65), none, [], false⟩,
          ⟨(some 67), .mv (.t 10), none, [], false⟩,
          ⟨(some 68), .bin .add (.t 66) (.t 67), none, [], false⟩,
          ⟨(some 69), .fad 1 (.t 4), none, [], false⟩,
          ⟨(some 70), .ld1 (.t 69), none, [], false⟩,
          ⟨(some 71), .mv (.t 12), none, [], false⟩,
          ⟨(some 72), .bin .add (.t 70) (.t 71), none, [], false⟩,
          ⟨(some 73), .mk [.int .i64 0, .int .i64 0] [(0, 1, (.t 68)), (1, 1, (.t 72))], none, [], false⟩,
          ⟨none, .st 2 (.t 8) (.t 73), none, [], false⟩,
          ⟨(some 9), .mv (.k (.int .i64 0)), none, [], false⟩])
        (.ret)))))
/-- skyway/plane.Sub -/
def c95 : CF where
  np := 2
  nt := 16
  res := [.cn 2 4]
  code := .seq (.reg [
      ⟨(some 2), .box (.t 0), none, [], false⟩,
      ⟨(some 3), .box (.t 1), none, [], false⟩,
      ⟨(some 4), .new [.int .i64 0, .int .i64 0], none, [], false⟩])
    (.seq (.reg [
       ⟨(some 5), .fad 0 (.t 2), none, [], false⟩,
       ⟨(some 6), .ld1 (.t 5), none, [], false⟩,
       ⟨(some 7), .fad 0 (.t 3), none, [], false⟩,
       ⟨(some 8), .ld1 (.t 7), none, [], false⟩,
       ⟨(some 9), .bin .sub (.t 6) (.t 8), none, [], false⟩,
       ⟨(some 10), .fad 1 (.t 2), none, [], false⟩,
       ⟨(some 11), .ld1 (.t 10), none, [], false⟩,
       ⟨(some 12), .fad 1 (.t 3), none, [], false⟩,
       ⟨(some 13), .ld1 (.t 12), none, [], false⟩,
       ⟨(some 14), .bin .sub (.t 11) (.t 13), none, [], false⟩,
       ⟨(some 15), .mk [.int .i64 0, .int .i64 0] [(0, 1, (.t 9)), (1, 1, (.t 14))], none, [], false⟩,
       ⟨none, .st 2 (.t 4) (.t 15), none, [], false⟩])
     (.ret))
/-- skyway/plane.Dot -/
def c118 : CF where
  np := 2
  nt := 16
  res := [.t 4]
  code := .seq (.reg [
      ⟨(some 2), .box (.t 0), none, [], false⟩,
      ⟨(some 3), .box (.t 1), none, [], false⟩,
      ⟨(some 4), .mv (.k (.int .i64 0)), none, [], false⟩])
    (.seq (.reg [
       ⟨(some 5), .fad 0 (.t 2), none, [], false⟩,
       ⟨(some 6), .ld1 (.t 5), none, [], false⟩,
       ⟨(some 7), .fad 0 (.t 3), none, [], false⟩,
       ⟨(some 8), .ld1 (.t 7), none, [], false⟩,
       ⟨(some 9), .bin .mul (.t 6) (.t 8), none, [], false⟩,
       ⟨(some 10), .fad 1 (.t 2), none, [], false⟩,
       ⟨(some 11), .ld1 (.t 10), none, [], false⟩,
       ⟨(some 12), .fad 1 (.t 3), none, [], false⟩,
       ⟨(some 13), .ld1 (.t 12), none, [], false⟩,
       ⟨(some 14), .bin .mul (.t 11) (.t 13), none, [], false⟩,
       ⟨(some 15), .bin .add (.t 9) (.t 14), none, [], false⟩,
       ⟨(some 4), .mv (.t 15), none, [], false⟩])
     (.ret))
/-- skyway/plane.Square -/
def c93 : CF where
  np := 2
  nt := 12
  res := [.t 4]
  code := .seq (.reg [
      ⟨(some 2), .box (.t 0), none, [], false⟩,
      ⟨(some 3), .box (.t 1), none, [], false⟩,
      ⟨(some 4), .mv (.k (.int .i64 0)), none, [], false⟩])
    (.seq (.reg [
       ⟨(some 6), .ldn 2 (.t 2), none, [], false⟩,
       ⟨(some 7), .ldn 2 (.t 3), none, [], false⟩,
       ⟨(some 8), .call (.k (.fn 95 [])) [(.t 6), (.t 7)], none, [], false⟩,
       ⟨(some 5), .new [.int .i64 0, .int .i64 0], none, [], false⟩,
       ⟨none, .st 2 (.t 5) (.t 8), none, [], false⟩])
     (.seq (.reg [
        ⟨(some 9), .ldn 2 (.t 5), none, [], false⟩,
        ⟨(some 10), .ldn 2 (.t 5), none, [], false⟩,
        ⟨(some 11), .call (.k (.fn 118 [])) [(.t 9), (.t 10)], none, [], false⟩,
        ⟨(some 4), .mv (.t 11), none, [], false⟩])
      (.ret)))
/-- math.Sqrt -/
def c80 : CF where
  np := 1
  nt := 5
  res := [.t 2]
  code := .seq (.reg [
      ⟨(some 2), .mv (.k (.flt .f64 0)), none, [], false⟩])
    (.seq (.reg [
       ⟨(some 3), .mv (.t 0), none, [], false⟩,
       ⟨(some 4), .xf 0 (.t 3), none, [], false⟩,
       ⟨(some 2), .mv (.t 4), none, [], false⟩])
     (.ret))
/-- skyway/num.Root -/
def c42 : CF where
  np := 1
  nt := 27
  res := [.t 2]
  code := .seq (.reg [
      ⟨(some 2), .mv (.k (.int .i64 0)), none, [], false⟩])
    (.seq (.seq (.reg [
        ⟨(some 4), .mv (.t 0), none, [], false⟩,
        ⟨(some 5), .bin .leq (.t 4) (.k (.int .i64 0)), none, [], false⟩])
      (.cond (.t 5) (.seq (.reg [
          ⟨(some 2), .mv (.k (.int .i64 0)), none, [], false⟩])
        (.ret))
       (.skip)))
     (.seq (.reg [
        ⟨(some 6), .mv (.t 0), none, [], false⟩,
        ⟨(some 7), .cvf .f64 (.t 6), none, [], false⟩,
        ⟨(some 8), .call (.k (.fn 80 [])) [(.t 7)], none, [], false⟩,
        ⟨(some 9), .cfi .i64 (.t 8), none, [], false⟩,
        ⟨(some 3), .mv (.t 9), none, [], false⟩])
      (.seq (.blk 0 (.loop (.seq (.seq (.reg [
             ⟨(some 10), .mv (.t 3), none, [], false⟩,
             ⟨(some 11), .mv (.t 0), none, [], false⟩,
             ⟨(some 12), .mv (.t 3), none, [], false⟩,
             ⟨(some 13), .bin .quo (.t 11) (.t 12), none, [], false⟩,
             ⟨(some 14), .bin .gtr (.t 10) (.t 13), none, [], false⟩])
           (.cond (.t 14) (.skip)
            (.exit 0)))
          (.blk 1 (.reg [
             ⟨(some 15), .mv (.t 3), none, [], false⟩,
             ⟨(some 16), .bin .sub (.t 15) (.k (.int .i64 1)), none, [], false⟩,
             ⟨(some 3), .mv (.t 16), none, [], false⟩])))))
       (.seq (.blk 2 (.loop (.seq (.seq (.reg [
              ⟨(some 17), .mv (.t 3), none, [], false⟩,
              ⟨(some 18), .bin .add (.t 17) (.k (.int .i64 1)), none, [], false⟩,
              ⟨(some 19), .mv (.t 0), none, [], false⟩,
              ⟨(some 20), .mv (.t 3), none, [], false⟩,
              ⟨(some 21), .bin .add (.t 20) (.k (.int .i64 1)), none, [], false⟩,
              ⟨(some 22), .bin .quo (.t 19) (.t 21), none, [], false⟩,
              ⟨(some 23), .bin .leq (.t 18) (.t 22), none, [], false⟩])
            (.cond (.t 23) (.skip)
             (.exit 2)))
           (.blk 3 (.reg [
              ⟨(some 24), .mv (.t 3), none, [], false⟩,
              ⟨(some 25), .bin .add (.t 24) (.k (.int .i64 1)), none, [], false⟩,
              ⟨(some 3), .mv (.t 25), none, [], false⟩])))))
        (.seq (.reg [
           ⟨(some 26), .mv (.t 3), none, [], false⟩,
           ⟨(some 2), .mv (.t 26), none, [], false⟩])
         (.ret))))))
/-- skyway/plane.Distance -/
def c55 : CF where
  np := 2
  nt := 23
  res := [.t 4, .t 5]
  code := .seq (.reg [
      ⟨(some 2), .box (.t 0), none, [], false⟩,
      ⟨(some 3), .box (.t 1), none, [], false⟩,
      ⟨(some 4), .mv (.k (.int .i64 0)), none, [], false⟩,
      ⟨(some 5), .mv (.k (.int .i64 0)), none, [], false⟩])
    (.seq (.reg [
       ⟨(some 8), .ldn 2 (.t 2), none, [], false⟩,
       ⟨(some 9), .ldn 2 (.t 3), none, [], false⟩,
       ⟨(some 10), .call (.k (.fn 93 [])) [(.t 8), (.t 9)], none, [], false⟩,
       ⟨(some 6), .mv (.t 10), none, [], false⟩])
     (.seq (.reg [
        ⟨(some 11), .mv (.t 6), none, [], false⟩,
        ⟨(some 12), .call (.k (.fn 42 [])) [(.t 11)], none, [], false⟩,
        ⟨(some 7), .mv (.t 12), none, [], false⟩])
      (.seq (.seq (.reg [
          ⟨(some 13), .mv (.t 7), none, [], false⟩,
          ⟨(some 14), .mv (.t 7), none, [], false⟩,
          ⟨(some 15), .bin .mul (.t 13) (.t 14), none, [], false⟩,
          ⟨(some 16), .mv (.t 6), none, [], false⟩,
          ⟨(some 17), .bin .lss (.t 15) (.t 16), none, [], false⟩])
        (.cond (.t 17) (.seq (.reg [
            ⟨(some 18), .mv (.t 7), none, [], false⟩,
            ⟨(some 19), .mv (.t 7), none, [], false⟩,
            ⟨(some 20), .bin .add (.t 19) (.k (.int .i64 1)), none, [], false⟩,
            ⟨(some 4), .mv (.t 18), none, [], false⟩,
            ⟨(some 5), .mv (.t 20), none, [], false⟩])
          (.ret))
         (.skip)))
       (.seq (.reg [
          ⟨(some 21), .mv (.t 7), none, [], false⟩,
          ⟨(some 22), .mv (.t 7), none, [], false⟩,
          ⟨(some 4), .mv (.t 21), none, [], false⟩,
          ⟨(some 5), .mv (.t 22), none, [], false⟩])
        (.ret)))))
/-- skyway/plane.Cross -/
def c94 : CF where
  np := 2
  nt := 16
  res := [.t 4]
  code := .seq (.reg [
      ⟨(some 2), .box (.t 0), none, [], false⟩,
      ⟨(some 3), .box (.t 1), none, [], false⟩,
      ⟨(some 4), .mv (.k (.int .i64 0)), none, [], false⟩])
    (.seq (.reg [
       ⟨(some 5), .fad 0 (.t 2), none, [], false⟩,
       ⟨(some 6), .ld1 (.t 5), none, [], false⟩,
       ⟨(some 7), .fad 1 (.t 3), none, [], false⟩,
       ⟨(some 8), .ld1 (.t 7), none, [], false⟩,
       ⟨(some 9), .bin .mul (.t 6) (.t 8), none, [], false⟩,
       ⟨(some 10), .fad 1 (.t 2), none, [], false⟩,
       ⟨(some 11), .ld1 (.t 10), none, [], false⟩,
       ⟨(some 12), .fad 0 (.t 3), none, [], false⟩,
       ⟨(some 13), .ld1 (.t 12), none, [], false⟩,
       ⟨(some 14), .bin .mul (.t 11) (.t 13), none, [], false⟩,
       ⟨(some 15), .bin .sub (.t 9) (.t 14), none, [], false⟩,
       ⟨(some 4), .mv (.t 15), none, [], false⟩])
     (.ret))
/-- skyway/plane.Turn -/
def c56 : CF where
  np := 3
  nt := 21
  res := [.t 6]
  code := .seq (.reg [
      ⟨(some 3), .box (.t 0), none, [], false⟩,
      ⟨(some 4), .box (.t 1), none, [], false⟩,
      ⟨(some 5), .box (.t 2), none, [], false⟩,
      ⟨(some 6), .mv (.k (.int .i64 0)), none, [], false⟩])
    (.seq (.seq (.reg [
        ⟨(some 8), .ldn 2 (.t 4), none, [], false⟩,
        ⟨(some 9), .ldn 2 (.t 3), none, [], false⟩,
        ⟨(some 11), .ldn 2 (.t 5), none, [], false⟩,
        ⟨(some 12), .ldn 2 (.t 3), none, [], false⟩,
        ⟨(some 10), .call (.k (.fn 95 [])) [(.t 8), (.t 9)], none, [], true⟩,
        ⟨(some 13), .call (.k (.fn 95 [])) [(.t 11), (.t 12)], none, [], false⟩,
        ⟨(some 14), .call (.k (.fn 94 [])) [(.t 10), (.t 13)], none, [], false⟩,
        ⟨(some 7), .mv (.t 14), none, [], false⟩])
      (.blk 0 (.seq (.reg [
          ⟨(some 16), .mv (.t 7), none, [], false⟩,
          ⟨(some 17), .bin .gtr (.t 16) (.k (.int .i64 0)), none, [], false⟩,
          ⟨(some 15), .mv (.t 17), none, [], false⟩])
        (.cond (.t 15) (.seq (.reg [
            ⟨(some 6), .mv (.k (.int .i64 1)), none, [], false⟩])
          (.ret))
         (.seq (.reg [
            ⟨(some 19), .mv (.t 7), none, [], false⟩,
            ⟨(some 20), .bin .lss (.t 19) (.k (.int .i64 0)), none, [], false⟩,
            ⟨(some 18), .mv (.t 20), none, [], false⟩])
          (.cond (.t 18) (.seq (.reg [
              ⟨(some 6), .mv (.k (.int .i64 (-1))), none, [], false⟩])
            (.ret))
           (.skip)))))))
     (.seq (.reg [
        ⟨(some 6), .mv (.k (.int .i64 0)), none, [], false⟩])
      (.ret)))
/-- skyway/skywaylaw1.planeWorks -/
def c15 : CF where
  np := 0
  nt := 39
  res := [.t 0]
  code := .seq (.reg [
      ⟨(some 0), .mv (.k (.bool false)), none, [], false⟩])
    (.seq (.reg [
       ⟨(some 6), .mk [.int .i64 0, .int .i64 0] [], none, [], false⟩,
       ⟨(some 7), .mk [.int .i64 0, .int .i64 0] [(0, 1, (.k (.int .i64 (-3)))), (1, 1, (.k (.int .i64 3)))], none, [], false⟩,
       ⟨(some 8), .call (.k (.fn 16 [])) [(.t 6), (.t 7), (.k (.int .i64 1)), (.k (.int .i64 2))], none, [], false⟩,
       ⟨(some 5), .mv (.t 8), none, [], false⟩,
       ⟨(some 9), .ext (.t 5) 0, none, [], false⟩,
       ⟨(some 10), .ext (.t 5) 1, none, [], false⟩,
       ⟨(some 1), .new [.int .i64 0, .int .i64 0], none, [], false⟩,
       ⟨none, .st 2 (.t 1) (.t 9), none, [], false⟩,
       ⟨(some 2), .mv (.t 10), none, [], false⟩])
     (.seq (.reg [
        ⟨(some 12), .mk [.int .i64 0, .int .i64 0] [], none, [], false⟩,
        ⟨(some 13), .mk [.int .i64 0, .int .i64 0] [(0, 1, (.k (.int .i64 1))), (1, 1, (.k (.int .i64 1)))], none, [], false⟩,
        ⟨(some 14), .call (.k (.fn 55 [])) [(.t 12), (.t 13)], none, [], false⟩,
        ⟨(some 11), .mv (.t 14), none, [], false⟩,
        ⟨(some 15), .ext (.t 11) 0, none, [], false⟩,
        ⟨(some 16), .ext (.t 11) 1, none, [], false⟩,
        ⟨(some 3), .mv (.t 15), none, [], false⟩,
        ⟨(some 4), .mv (.t 16), none, [], false⟩])
      (.seq (.reg [
         ⟨(some 17), .mv (.t 2), none, [], false⟩,
         ⟨(some 18), .bin .eql (.t 17) (.k (.int .i64 0)), none, [], false⟩,
         ⟨(some 19), .mv (.t 18), none, [], false⟩,
         ⟨(some 20), .ldn 2 (.t 1), (some (19, true)), [], false⟩,
         ⟨(some 21), .mk [.int .i64 0, .int .i64 0] [(0, 1, (.k (.int .i64 (-2)))), (1, 1, (.k (.int .i64 1)))], (some (19, true)), [], false⟩,
         ⟨(some 22), .eqs false (some [.i, .i]) (.t 20) (.t 21), (some (19, true)), [], false⟩,
         ⟨(some 23), .pick (.t 19) (.t 22) (.k (.bool false)), none, [], false⟩,
         ⟨(some 24), .mv (.t 23), none, [], false⟩,
         ⟨(some 25), .mv (.t 3), (some (24, true)), [], false⟩,
         ⟨(some 26), .bin .eql (.t 25) (.k (.int .i64 1)), (some (24, true)), [], false⟩,
         ⟨(some 27), .pick (.t 24) (.t 26) (.k (.bool false)), none, [], false⟩,
         ⟨(some 28), .mv (.t 27), none, [], false⟩,
         ⟨(some 29), .mv (.t 4), (some (28, true)), [], false⟩,
         ⟨(some 30), .bin .eql (.t 29) (.k (.int .i64 2)), (some (28, true)), [], false⟩,
         ⟨(some 31), .pick (.t 28) (.t 30) (.k (.bool false)), none, [], false⟩,
         ⟨(some 32), .mv (.t 31), none, [], false⟩,
         ⟨(some 33), .mk [.int .i64 0, .int .i64 0] [], (some (32, true)), [], false⟩,
         ⟨(some 34), .mk [.int .i64 0, .int .i64 0] [(0, 1, (.k (.int .i64 1)))], (some (32, true)), [], false⟩,
         ⟨(some 35), .mk [.int .i64 0, .int .i64 0] [(0, 1, (.k (.int .i64 1))), (1, 1, (.k (.int .i64 1)))], (some (32, true)), [], false⟩,
         ⟨(some 36), .call (.k (.fn 56 [])) [(.t 33), (.t 34), (.t 35)], (some (32, true)), [], false⟩,
         ⟨(some 37), .bin .eql (.t 36) (.k (.int .i64 1)), (some (32, true)), [], false⟩,
         ⟨(some 38), .pick (.t 32) (.t 37) (.k (.bool false)), none, [], false⟩,
         ⟨(some 0), .mv (.t 38), none, [], false⟩])
       (.ret))))
/-- skyway/skywayref1.Good -/
def c17 : CF where
  np := 1
  nt := 21
  res := [.t 2]
  code := .seq (.reg [
      ⟨(some 1), .box (.t 0), none, [], false⟩,
      ⟨(some 2), .mv (.k (.bool false)), none, [], false⟩])
    (.seq (.reg [
       ⟨(some 3), .fad 0 (.t 1), none, [], false⟩,
       ⟨(some 4), .ld1 (.t 3), none, [], false⟩,
       ⟨(some 5), .bin .geq (.t 4) (.k (.int .i64 (-1000000))), none, [], false⟩,
       ⟨(some 6), .mv (.t 5), none, [], false⟩,
       ⟨(some 7), .fad 0 (.t 1), (some (6, true)), [], false⟩,
       ⟨(some 8), .ld1 (.t 7), (some (6, true)), [], false⟩,
       ⟨(some 9), .bin .leq (.t 8) (.k (.int .i64 1000000)), (some (6, true)), [], false⟩,
       ⟨(some 10), .pick (.t 6) (.t 9) (.k (.bool false)), none, [], false⟩,
       ⟨(some 11), .mv (.t 10), none, [], false⟩,
       ⟨(some 12), .fad 1 (.t 1), (some (11, true)), [], false⟩,
       ⟨(some 13), .ld1 (.t 12), (some (11, true)), [], false⟩,
       ⟨(some 14), .bin .geq (.t 13) (.k (.int .i64 (-1000000))), (some (11, true)), [], false⟩,
       ⟨(some 15), .pick (.t 11) (.t 14) (.k (.bool false)), none, [], false⟩,
       ⟨(some 16), .mv (.t 15), none, [], false⟩,
       ⟨(some 17), .fad 1 (.t 1), (some (16, true)), [], false⟩,
       ⟨(some 18), .ld1 (.t 17), (some (16, true)), [], false⟩,
       ⟨(some 19), .bin .leq (.t 18) (.k (.int .i64 1000000)), (some (16, true)), [], false⟩,
       ⟨(some 20), .pick (.t 16) (.t 19) (.k (.bool false)), none, [], false⟩,
       ⟨(some 2), .mv (.t 20), none, [], false⟩])
     (.ret))
/-- skyway/skywayref1.Floor -/
def c59 : CF where
  np := 2
  nt := 36
  res := [.t 4]
  code := .seq (.reg [
      ⟨(some 4), .mv (.k (.int .i64 0)), none, [], false⟩])
    (.seq (.seq (.reg [
        ⟨(some 7), .mv (.t 0), none, [], false⟩,
        ⟨(some 8), .bin .lss (.t 7) (.k (.int .i64 0)), none, [], false⟩])
      (.cond (.t 8) (.seq (.reg [
          ⟨(some 9), .mv (.t 0), none, [], false⟩,
          ⟨(some 10), .un .neg (.t 9), none, [], false⟩,
          ⟨(some 11), .mv (.t 1), none, [], false⟩,
          ⟨(some 12), .bin .add (.t 10) (.t 11), none, [], false⟩,
          ⟨(some 13), .bin .sub (.t 12) (.k (.int .i64 1)), none, [], false⟩,
          ⟨(some 14), .mv (.t 1), none, [], false⟩,
          ⟨(some 15), .call (.k (.fn 59 [])) [(.t 13), (.t 14)], none, [], false⟩,
          ⟨(some 16), .un .neg (.t 15), none, [], false⟩,
          ⟨(some 4), .mv (.t 16), none, [], false⟩])
        (.ret))
       (.skip)))
     (.seq (.reg [
        ⟨(some 5), .mv (.k (.int .i64 0)), none, [], false⟩])
      (.seq (.seq (.reg [
          ⟨(some 6), .mv (.k (.int .i64 62)), none, [], false⟩])
        (.blk 0 (.loop (.seq (.seq (.reg [
              ⟨(some 17), .mv (.t 6), none, [], false⟩,
              ⟨(some 18), .bin .geq (.t 17) (.k (.int .i64 0)), none, [], false⟩])
            (.cond (.t 18) (.skip)
             (.exit 0)))
           (.seq (.blk 1 (.seq (.reg [
                ⟨(some 21), .mv (.t 1), none, [], false⟩,
                ⟨(some 22), .mv (.t 0), none, [], false⟩,
                ⟨(some 23), .mv (.t 6), none, [], false⟩,
                ⟨(some 24), .bin .shr (.t 22) (.t 23), none, [], false⟩,
                ⟨(some 25), .bin .leq (.t 21) (.t 24), none, [], false⟩])
              (.cond (.t 25) (.seq (.reg [
                  ⟨(some 26), .mv (.t 0), none, [], false⟩,
                  ⟨(some 27), .mv (.t 1), none, [], false⟩,
                  ⟨(some 28), .mv (.t 6), none, [], false⟩,
                  ⟨(some 29), .bin .shl (.t 27) (.t 28), none, [], false⟩,
                  ⟨(some 30), .bin .sub (.t 26) (.t 29), none, [], false⟩,
                  ⟨(some 0), .mv (.t 30), none, [], false⟩])
                (.reg [
                  ⟨(some 31), .mv (.t 5), none, [], false⟩,
                  ⟨(some 32), .mv (.t 6), none, [], false⟩,
                  ⟨(some 33), .bin .shl (.k (.int .i64 1)) (.t 32), none, [], false⟩,
                  ⟨(some 34), .bin .add (.t 31) (.t 33), none, [], false⟩,
                  ⟨(some 5), .mv (.t 34), none, [], false⟩]))
               (.skip))))
            (.reg [
              ⟨(some 19), .mv (.t 6), none, [], false⟩,
              ⟨(some 20), .bin .sub (.t 19) (.k (.int .i64 1)), none, [], false⟩,
              ⟨(some 6), .mv (.t 20), none, [], false⟩]))))))
       (.seq (.reg [
          ⟨(some 35), .mv (.t 5), none, [], false⟩,
          ⟨(some 4), .mv (.t 35), none, [], false⟩])
        (.ret)))))
/-- skyway/skywayref1.Mix -/
def c18 : CF where
  np := 4
  nt := 18
  res := [.t 8]
  code := .seq (.reg [
      ⟨(some 8), .mv (.k (.int .i64 0)), none, [], false⟩])
    (.seq (.reg [
       ⟨(some 9), .mv (.t 0), none, [], false⟩,
       ⟨(some 10), .mv (.t 1), none, [], false⟩,
       ⟨(some 11), .mv (.t 0), none, [], false⟩,
       ⟨(some 12), .bin .sub (.t 10) (.t 11), none, [], false⟩,
       ⟨(some 13), .mv (.t 2), none, [], false⟩,
       ⟨(some 14), .bin .mul (.t 12) (.t 13), none, [], false⟩,
       ⟨(some 15), .mv (.t 3), none, [], false⟩,
       ⟨(some 16), .call (.k (.fn 59 [])) [(.t 14), (.t 15)], none, [], false⟩,
       ⟨(some 17), .bin .add (.t 9) (.t 16), none, [], false⟩,
       ⟨(some 8), .mv (.t 17), none, [], false⟩])
     (.ret))
/-- skyway/skywaylaw1.PlaneToward -/
def c3 : CF where
  np := 4
  nt := 81
  res := [.t 8]
  code := .seq (.reg [
      ⟨(some 4), .box (.t 0), none, [], false⟩,
      ⟨(some 5), .box (.t 1), none, [], false⟩,
      ⟨(some 8), .mv (.k (.bool false)), none, [], false⟩])
    (.seq (.seq (.reg [
        ⟨(some 11), .call (.k (.fn 15 [])) [], none, [], false⟩,
        ⟨(some 12), .un .not (.t 11), none, [], false⟩])
      (.cond (.t 12) (.seq (.reg [
          ⟨(some 8), .mv (.k (.bool false)), none, [], false⟩])
        (.ret))
       (.skip)))
     (.seq (.reg [
        ⟨(some 14), .ldn 2 (.t 4), none, [], false⟩,
        ⟨(some 15), .ldn 2 (.t 5), none, [], false⟩,
        ⟨(some 16), .mv (.t 2), none, [], false⟩,
        ⟨(some 17), .mv (.t 3), none, [], false⟩,
        ⟨(some 18), .call (.k (.fn 16 [])) [(.t 14), (.t 15), (.t 16), (.t 17)], none, [], false⟩,
        ⟨(some 13), .mv (.t 18), none, [], false⟩,
        ⟨(some 19), .ext (.t 13) 0, none, [], false⟩,
        ⟨(some 20), .ext (.t 13) 1, none, [], false⟩,
        ⟨(some 9), .new [.int .i64 0, .int .i64 0], none, [], false⟩,
        ⟨none, .st 2 (.t 9) (.t 19), none, [], false⟩,
        ⟨(some 10), .mv (.t 20), none, [], false⟩])
      (.seq (.blk 0 (.seq (.reg [
           ⟨(some 22), .mv (.t 3), none, [], false⟩,
           ⟨(some 23), .bin .leq (.t 22) (.k (.int .i64 0)), none, [], false⟩,
           ⟨(some 21), .mv (.t 23), none, [], false⟩])
         (.cond (.t 21) (.seq (.reg [
             ⟨(some 24), .mv (.t 10), none, [], false⟩,
             ⟨(some 25), .bin .eql (.t 24) (.k (.int .i64 10)), none, [], false⟩,
             ⟨(some 26), .mv (.t 25), none, [], false⟩,
             ⟨(some 27), .ldn 2 (.t 9), (some (26, true)), [], false⟩,
             ⟨(some 28), .mk [.int .i64 0, .int .i64 0] [], (some (26, true)), [], false⟩,
             ⟨(some 29), .eqs false (some [.i, .i]) (.t 27) (.t 28), (some (26, true)), [], false⟩,
             ⟨(some 30), .pick (.t 26) (.t 29) (.k (.bool false)), none, [], false⟩,
             ⟨(some 8), .mv (.t 30), none, [], false⟩])
           (.ret))
          (.seq (.reg [
             ⟨(some 32), .mv (.t 3), none, [], false⟩,
             ⟨(some 33), .bin .gtr (.t 32) (.k (.int .i64 200000)), none, [], false⟩,
             ⟨(some 34), .mv (.t 33), none, [], false⟩,
             ⟨(some 35), .mv (.t 2), (some (34, false)), [], false⟩,
             ⟨(some 36), .bin .lss (.t 35) (.k (.int .i64 0)), (some (34, false)), [], false⟩,
             ⟨(some 37), .pick (.t 34) (.k (.bool true)) (.t 36), none, [], false⟩,
             ⟨(some 38), .mv (.t 37), none, [], false⟩,
             ⟨(some 39), .mv (.t 2), (some (38, false)), [], false⟩,
             ⟨(some 40), .mv (.t 3), (some (38, false)), [], false⟩,
             ⟨(some 41), .bin .gtr (.t 39) (.t 40), (some (38, false)), [], false⟩,
             ⟨(some 42), .pick (.t 38) (.k (.bool true)) (.t 41), none, [], false⟩,
             ⟨(some 43), .mv (.t 42), none, [], false⟩,
             ⟨(some 44), .ldn 2 (.t 4), (some (43, false)), [], false⟩,
             ⟨(some 45), .call (.k (.fn 17 [])) [(.t 44)], (some (43, false)), [], false⟩,
             ⟨(some 46), .un .not (.t 45), (some (43, false)), [], false⟩,
             ⟨(some 47), .pick (.t 43) (.k (.bool true)) (.t 46), none, [], false⟩,
             ⟨(some 48), .mv (.t 47), none, [], false⟩,
             ⟨(some 49), .ldn 2 (.t 5), (some (48, false)), [], false⟩,
             ⟨(some 50), .call (.k (.fn 17 [])) [(.t 49)], (some (48, false)), [], false⟩,
             ⟨(some 51), .un .not (.t 50), (some (48, false)), [], false⟩,
             ⟨(some 52), .pick (.t 48) (.k (.bool true)) (.t 51), none, [], false⟩,
             ⟨(some 31), .mv (.t 52), none, [], false⟩])
           (.cond (.t 31) (.seq (.reg [
               ⟨(some 53), .mv (.t 10), none, [], false⟩,
               ⟨(some 54), .bin .eql (.t 53) (.k (.int .i64 4)), none, [], false⟩,
               ⟨(some 55), .mv (.t 54), none, [], false⟩,
               ⟨(some 56), .ldn 2 (.t 9), (some (55, true)), [], false⟩,
               ⟨(some 57), .mk [.int .i64 0, .int .i64 0] [], (some (55, true)), [], false⟩,
               ⟨(some 58), .eqs false (some [.i, .i]) (.t 56) (.t 57), (some (55, true)), [], false⟩,
               ⟨(some 59), .pick (.t 55) (.t 58) (.k (.bool false)), none, [], false⟩,
               ⟨(some 8), .mv (.t 59), none, [], false⟩])
             (.ret))
            (.skip))))))
       (.seq (.reg [
          ⟨(some 60), .mv (.t 10), none, [], false⟩,
          ⟨(some 61), .bin .eql (.t 60) (.k (.int .i64 0)), none, [], false⟩,
          ⟨(some 62), .mv (.t 61), none, [], false⟩,
          ⟨(some 63), .ldn 2 (.t 9), (some (62, true)), [], false⟩,
          ⟨(some 64), .fad 0 (.t 4), (some (62, true)), [], false⟩,
          ⟨(some 65), .ld1 (.t 64), (some (62, true)), [], false⟩,
          ⟨(some 66), .fad 0 (.t 5), (some (62, true)), [], false⟩,
          ⟨(some 67), .ld1 (.t 66), (some (62, true)), [], false⟩,
          ⟨(some 68), .mv (.t 2), (some (62, true)), [], false⟩,
          ⟨(some 69), .mv (.t 3), (some (62, true)), [], false⟩,
          ⟨(some 71), .fad 1 (.t 4), (some (62, true)), [], false⟩,
          ⟨(some 72), .ld1 (.t 71), (some (62, true)), [], false⟩,
          ⟨(some 73), .fad 1 (.t 5), (some (62, true)), [], false⟩,
          ⟨(some 74), .ld1 (.t 73), (some (62, true)), [], false⟩,
          ⟨(some 75), .mv (.t 2), (some (62, true)), [], false⟩,
          ⟨(some 76), .mv (.t 3), (some (62, true)), [], false⟩,
          ⟨(some 70), .call (.k (.fn 18 [])) [(.t 65), (.t 67), (.t 68), (.t 69)], (some (62, true)), [], true⟩,
          ⟨(some 77), .call (.k (.fn 18 [])) [(.t 72), (.t 74), (.t 75), (.t 76)], (some (62, true)), [], true⟩,
          ⟨(some 78), .mk [.int .i64 0, .int .i64 0] [(0, 1, (.t 70)), (1, 1, (.t 77))], (some (62, true)), [], false⟩,
          ⟨(some 79), .eqs false (some [.i, .i]) (.t 63) (.t 78), (some (62, true)), [], false⟩,
          ⟨(some 80), .pick (.t 62) (.t 79) (.k (.bool false)), none, [], false⟩,
          ⟨(some 8), .mv (.t 80), none, [], false⟩])
        (.ret)))))
/-- skyway/filter.Check$1 -/
def c98 : CF where
  np := 1
  nt := 9
  res := [.t 2]
  code := .seq (.reg [
      ⟨(some 2), .mv (.k (.bool false)), none, [], false⟩])
    (.seq (.reg [
       ⟨(some 3), .mv (.t 0), none, [], false⟩,
       ⟨(some 4), .bin .lss (.t 3) (.k (.int .i64 (-12800))), none, [], false⟩,
       ⟨(some 5), .mv (.t 4), none, [], false⟩,
       ⟨(some 6), .mv (.t 0), (some (5, false)), [], false⟩,
       ⟨(some 7), .bin .gtr (.t 6) (.k (.int .i64 12800)), (some (5, false)), [], false⟩,
       ⟨(some 8), .pick (.t 5) (.k (.bool true)) (.t 7), none, [], false⟩,
       ⟨(some 2), .mv (.t 8), none, [], false⟩])
     (.ret))
/-- skyway/radar.placed -/
def c119 : CF where
  np := 1
  nt := 21
  res := [.t 2]
  code := .seq (.reg [
      ⟨(some 1), .box (.t 0), none, [], false⟩,
      ⟨(some 2), .mv (.k (.bool false)), none, [], false⟩])
    (.seq (.reg [
       ⟨(some 3), .fad 0 (.t 1), none, [], false⟩,
       ⟨(some 4), .ld1 (.t 3), none, [], false⟩,
       ⟨(some 5), .bin .geq (.t 4) (.k (.int .i64 (-1000000))), none, [], false⟩,
       ⟨(some 6), .mv (.t 5), none, [], false⟩,
       ⟨(some 7), .fad 0 (.t 1), (some (6, true)), [], false⟩,
       ⟨(some 8), .ld1 (.t 7), (some (6, true)), [], false⟩,
       ⟨(some 9), .bin .leq (.t 8) (.k (.int .i64 1000000)), (some (6, true)), [], false⟩,
       ⟨(some 10), .pick (.t 6) (.t 9) (.k (.bool false)), none, [], false⟩,
       ⟨(some 11), .mv (.t 10), none, [], false⟩,
       ⟨(some 12), .fad 1 (.t 1), (some (11, true)), [], false⟩,
       ⟨(some 13), .ld1 (.t 12), (some (11, true)), [], false⟩,
       ⟨(some 14), .bin .geq (.t 13) (.k (.int .i64 (-1000000))), (some (11, true)), [], false⟩,
       ⟨(some 15), .pick (.t 11) (.t 14) (.k (.bool false)), none, [], false⟩,
       ⟨(some 16), .mv (.t 15), none, [], false⟩,
       ⟨(some 17), .fad 1 (.t 1), (some (16, true)), [], false⟩,
       ⟨(some 18), .ld1 (.t 17), (some (16, true)), [], false⟩,
       ⟨(some 19), .bin .leq (.t 18) (.k (.int .i64 1000000)), (some (16, true)), [], false⟩,
       ⟨(some 20), .pick (.t 16) (.t 19) (.k (.bool false)), none, [], false⟩,
       ⟨(some 2), .mv (.t 20), none, [], false⟩])
     (.ret))
/-- skyway/radar.CheckSpot -/
def c99 : CF where
  np := 1
  nt := 47
  res := [.t 2]
  code := .seq (.reg [
      ⟨(some 1), .box (.t 0), none, [], false⟩,
      ⟨(some 2), .mv (.k (.int .i64 0)), none, [], false⟩])
    (.seq (.seq (.reg [
        ⟨(some 3), .fad 0 (.t 1), none, [], false⟩,
        ⟨(some 4), .ld1 (.t 3), none, [], false⟩,
        ⟨(some 5), .bin .lss (.t 4) (.k (.int .i64 0)), none, [], false⟩,
        ⟨(some 6), .mv (.t 5), none, [], false⟩,
        ⟨(some 7), .fad 0 (.t 1), (some (6, false)), [], false⟩,
        ⟨(some 8), .ld1 (.t 7), (some (6, false)), [], false⟩,
        ⟨(some 9), .bin .gtr (.t 8) (.k (.int .i64 200000)), (some (6, false)), [], false⟩,
        ⟨(some 10), .pick (.t 6) (.k (.bool true)) (.t 9), none, [], false⟩,
        ⟨(some 11), .mv (.t 10), none, [], false⟩,
        ⟨(some 12), .fad 1 (.t 1), (some (11, false)), [], false⟩,
        ⟨(some 13), .ldn 2 (.t 12), (some (11, false)), [], false⟩,
        ⟨(some 14), .call (.k (.fn 119 [])) [(.t 13)], (some (11, false)), [], false⟩,
        ⟨(some 15), .un .not (.t 14), (some (11, false)), [], false⟩,
        ⟨(some 16), .pick (.t 11) (.k (.bool true)) (.t 15), none, [], false⟩,
        ⟨(some 17), .mv (.t 16), none, [], false⟩,
        ⟨(some 18), .fad 3 (.t 1), (some (17, false)), [], false⟩,
        ⟨(some 19), .ld1 (.t 18), (some (17, false)), [], false⟩,
        ⟨(some 20), .bin .lss (.t 19) (.k (.int .i64 0)), (some (17, false)), [], false⟩,
        ⟨(some 21), .pick (.t 17) (.k (.bool true)) (.t 20), none, [], false⟩,
        ⟨(some 22), .mv (.t 21), none, [], false⟩,
        ⟨(some 23), .fad 3 (.t 1), (some (22, false)), [], false⟩,
        ⟨(some 24), .ld1 (.t 23), (some (22, false)), [], false⟩,
        ⟨(some 25), .bin .gtr (.t 24) (.k (.int .i64 60000)), (some (22, false)), [], false⟩,
        ⟨(some 26), .pick (.t 22) (.k (.bool true)) (.t 25), none, [], false⟩,
        ⟨(some 27), .mv (.t 26), none, [], false⟩,
        ⟨(some 28), .fad 4 (.t 1), (some (27, false)), [], false⟩,
        ⟨(some 29), .ld1 (.t 28), (some (27, false)), [], false⟩,
        ⟨(some 30), .bin .lss (.t 29) (.k (.int .i64 (-1))), (some (27, false)), [], false⟩,
        ⟨(some 31), .pick (.t 27) (.k (.bool true)) (.t 30), none, [], false⟩,
        ⟨(some 32), .mv (.t 31), none, [], false⟩,
        ⟨(some 33), .fad 4 (.t 1), (some (32, false)), [], false⟩,
        ⟨(some 34), .ld1 (.t 33), (some (32, false)), [], false⟩,
        ⟨(some 35), .bin .gtr (.t 34) (.k (.int .i64 4095)), (some (32, false)), [], false⟩,
        ⟨(some 36), .pick (.t 32) (.k (.bool true)) (.t 35), none, [], false⟩,
        ⟨(some 37), .mv (.t 36), none, [], false⟩,
        ⟨(some 38), .fad 5 (.t 1), (some (37, false)), [], false⟩,
        ⟨(some 39), .ld1 (.t 38), (some (37, false)), [], false⟩,
        ⟨(some 40), .bin .lss (.t 39) (.k (.int .i64 0)), (some (37, false)), [], false⟩,
        ⟨(some 41), .pick (.t 37) (.k (.bool true)) (.t 40), none, [], false⟩,
        ⟨(some 42), .mv (.t 41), none, [], false⟩,
        ⟨(some 43), .fad 5 (.t 1), (some (42, false)), [], false⟩,
        ⟨(some 44), .ld1 (.t 43), (some (42, false)), [], false⟩,
        ⟨(some 45), .bin .gtr (.t 44) (.k (.int .i64 1000000)), (some (42, false)), [], false⟩,
        ⟨(some 46), .pick (.t 42) (.k (.bool true)) (.t 45), none, [], false⟩])
      (.cond (.t 46) (.seq (.reg [
          ⟨(some 2), .mv (.k (.int .i64 4)), none, [], false⟩])
        (.ret))
       (.skip)))
     (.seq (.reg [
        ⟨(some 2), .mv (.k (.int .i64 0)), none, [], false⟩])
      (.ret)))
/-- skyway/filter.Check -/
def c64 : CF where
  np := 1
  nt := 127
  res := [.t 2]
  code := .seq (.reg [
      ⟨(some 1), .box (.t 0), none, [], false⟩,
      ⟨(some 2), .mv (.k (.int .i64 0)), none, [], false⟩])
    (.seq (.reg [
       ⟨(some 6), .fad 0 (.t 1), none, [], false⟩,
       ⟨(some 7), .ldn 13 (.t 6), none, [], false⟩,
       ⟨(some 3), .new [.int .i64 0, .int .i64 0, .int .i64 0, .int .i64 0, .int .i64 0, .int .i64 0, .int .i64 0, .int .i64 0, .int .i64 0, .int .i64 0, .int .i64 0, .int .i64 0, .int .i64 0], none, [], false⟩,
       ⟨none, .st 13 (.t 3) (.t 7), none, [], false⟩])
     (.seq (.reg [
        ⟨(some 4), .mv (.k (.fn 98 [])), none, [], false⟩])
      (.seq (.blk 0 (.seq (.seq (.reg [
            ⟨(some 9), .fad 2 (.t 3), none, [], false⟩,
            ⟨(some 10), .ld1 (.t 9), none, [], false⟩,
            ⟨(some 11), .bin .lss (.t 10) (.k (.int .i64 0)), none, [], false⟩,
            ⟨(some 12), .mv (.t 11), none, [], false⟩,
            ⟨(some 13), .fad 2 (.t 3), (some (12, false)), [], false⟩,
            ⟨(some 14), .ld1 (.t 13), (some (12, false)), [], false⟩,
            ⟨(some 15), .bin .gtr (.t 14) (.k (.int .i64 200000)), (some (12, false)), [], false⟩,
            ⟨(some 16), .pick (.t 12) (.k (.bool true)) (.t 15), none, [], false⟩,
            ⟨(some 17), .mv (.t 16), none, [], false⟩,
            ⟨(some 18), .fad 3 (.t 3), (some (17, false)), [], false⟩,
            ⟨(some 19), .fad 0 (.t 18), (some (17, false)), [], false⟩,
            ⟨(some 20), .ld1 (.t 19), (some (17, false)), [], false⟩,
            ⟨(some 21), .bin .lss (.t 20) (.k (.int .i64 (-1000000))), (some (17, false)), [], false⟩,
            ⟨(some 22), .pick (.t 17) (.k (.bool true)) (.t 21), none, [], false⟩,
            ⟨(some 23), .mv (.t 22), none, [], false⟩,
            ⟨(some 24), .fad 3 (.t 3), (some (23, false)), [], false⟩,
            ⟨(some 25), .fad 0 (.t 24), (some (23, false)), [], false⟩,
            ⟨(some 26), .ld1 (.t 25), (some (23, false)), [], false⟩,
            ⟨(some 27), .bin .gtr (.t 26) (.k (.int .i64 1000000)), (some (23, false)), [], false⟩,
            ⟨(some 28), .pick (.t 23) (.k (.bool true)) (.t 27), none, [], false⟩,
            ⟨(some 29), .mv (.t 28), none, [], false⟩,
            ⟨(some 30), .fad 3 (.t 3), (some (29, false)), [], false⟩,
            ⟨(some 31), .fad 1 (.t 30), (some (29, false)), [], false⟩,
            ⟨(some 32), .ld1 (.t 31), (some (29, false)), [], false⟩,
            ⟨(some 33), .bin .lss (.t 32) (.k (.int .i64 (-1000000))), (some (29, false)), [], false⟩,
            ⟨(some 34), .pick (.t 29) (.k (.bool true)) (.t 33), none, [], false⟩,
            ⟨(some 35), .mv (.t 34), none, [], false⟩,
            ⟨(some 36), .fad 3 (.t 3), (some (35, false)), [], false⟩,
            ⟨(some 37), .fad 1 (.t 36), (some (35, false)), [], false⟩,
            ⟨(some 38), .ld1 (.t 37), (some (35, false)), [], false⟩,
            ⟨(some 39), .bin .gtr (.t 38) (.k (.int .i64 1000000)), (some (35, false)), [], false⟩,
            ⟨(some 40), .pick (.t 35) (.k (.bool true)) (.t 39), none, [], false⟩,
            ⟨(some 8), .mv (.t 40), none, [], false⟩])
          (.cond (.t 8) (.skip)
           (.seq (.reg [
              ⟨(some 41), .mv (.t 4), none, [], false⟩,
              ⟨(some 42), .fad 5 (.t 3), none, [], false⟩,
              ⟨(some 43), .fad 0 (.t 42), none, [], false⟩,
              ⟨(some 44), .ld1 (.t 43), none, [], false⟩,
              ⟨(some 45), .call (.t 41) [(.t 44)], none, [], false⟩,
              ⟨(some 46), .mv (.t 45), none, [], false⟩,
              ⟨(some 47), .mv (.t 4), (some (46, false)), [], false⟩,
              ⟨(some 48), .fad 5 (.t 3), (some (46, false)), [], false⟩,
              ⟨(some 49), .fad 1 (.t 48), (some (46, false)), [], false⟩,
              ⟨(some 50), .ld1 (.t 49), (some (46, false)), [], false⟩,
              ⟨(some 51), .call (.t 47) [(.t 50)], (some (46, false)), [], false⟩,
              ⟨(some 52), .pick (.t 46) (.k (.bool true)) (.t 51), none, [], false⟩,
              ⟨(some 8), .mv (.t 52), none, [], false⟩])
            (.cond (.t 8) (.skip)
             (.seq (.reg [
                ⟨(some 53), .fad 7 (.t 3), none, [], false⟩,
                ⟨(some 54), .ld1 (.t 53), none, [], false⟩,
                ⟨(some 55), .bin .lss (.t 54) (.k (.int .i64 0)), none, [], false⟩,
                ⟨(some 56), .mv (.t 55), none, [], false⟩,
                ⟨(some 57), .fad 7 (.t 3), (some (56, false)), [], false⟩,
                ⟨(some 58), .ld1 (.t 57), (some (56, false)), [], false⟩,
                ⟨(some 59), .bin .gtr (.t 58) (.k (.int .i64 60000)), (some (56, false)), [], false⟩,
                ⟨(some 60), .pick (.t 56) (.k (.bool true)) (.t 59), none, [], false⟩,
                ⟨(some 8), .mv (.t 60), none, [], false⟩])
              (.cond (.t 8) (.skip)
               (.seq (.reg [
                  ⟨(some 61), .fad 8 (.t 3), none, [], false⟩,
                  ⟨(some 62), .ld1 (.t 61), none, [], false⟩,
                  ⟨(some 63), .bin .lss (.t 62) (.k (.int .i64 (-3200))), none, [], false⟩,
                  ⟨(some 64), .mv (.t 63), none, [], false⟩,
                  ⟨(some 65), .fad 8 (.t 3), (some (64, false)), [], false⟩,
                  ⟨(some 66), .ld1 (.t 65), (some (64, false)), [], false⟩,
                  ⟨(some 67), .bin .gtr (.t 66) (.k (.int .i64 3200)), (some (64, false)), [], false⟩,
                  ⟨(some 68), .pick (.t 64) (.k (.bool true)) (.t 67), none, [], false⟩,
                  ⟨(some 8), .mv (.t 68), none, [], false⟩])
                (.cond (.t 8) (.skip)
                 (.seq (.reg [
                    ⟨(some 69), .fad 9 (.t 3), none, [], false⟩,
                    ⟨(some 70), .ld1 (.t 69), none, [], false⟩,
                    ⟨(some 71), .bin .lss (.t 70) (.k (.int .i64 0)), none, [], false⟩,
                    ⟨(some 72), .mv (.t 71), none, [], false⟩,
                    ⟨(some 73), .fad 9 (.t 3), (some (72, false)), [], false⟩,
                    ⟨(some 74), .ld1 (.t 73), (some (72, false)), [], false⟩,
                    ⟨(some 75), .bin .gtr (.t 74) (.k (.int .i64 4000000)), (some (72, false)), [], false⟩,
                    ⟨(some 76), .pick (.t 72) (.k (.bool true)) (.t 75), none, [], false⟩,
                    ⟨(some 8), .mv (.t 76), none, [], false⟩])
                  (.cond (.t 8) (.skip)
                   (.seq (.reg [
                      ⟨(some 77), .fad 10 (.t 3), none, [], false⟩,
                      ⟨(some 78), .ld1 (.t 77), none, [], false⟩,
                      ⟨(some 79), .bin .lss (.t 78) (.k (.int .i64 (-1))), none, [], false⟩,
                      ⟨(some 80), .mv (.t 79), none, [], false⟩,
                      ⟨(some 81), .fad 10 (.t 3), (some (80, false)), [], false⟩,
                      ⟨(some 82), .ld1 (.t 81), (some (80, false)), [], false⟩,
                      ⟨(some 83), .bin .gtr (.t 82) (.k (.int .i64 4095)), (some (80, false)), [], false⟩,
                      ⟨(some 84), .pick (.t 80) (.k (.bool true)) (.t 83), none, [], false⟩,
                      ⟨(some 8), .mv (.t 84), none, [], false⟩])
                    (.cond (.t 8) (.skip)
                     (.seq (.reg [
                        ⟨(some 85), .fad 13 (.t 1), none, [], false⟩,
                        ⟨(some 86), .ld1 (.t 85), none, [], false⟩,
                        ⟨(some 87), .bin .lss (.t 86) (.k (.int .i64 0)), none, [], false⟩,
                        ⟨(some 88), .mv (.t 87), none, [], false⟩,
                        ⟨(some 89), .fad 13 (.t 1), (some (88, false)), [], false⟩,
                        ⟨(some 90), .ld1 (.t 89), (some (88, false)), [], false⟩,
                        ⟨(some 91), .bin .gtr (.t 90) (.k (.int .i64 409600)), (some (88, false)), [], false⟩,
                        ⟨(some 92), .pick (.t 88) (.k (.bool true)) (.t 91), none, [], false⟩,
                        ⟨(some 8), .mv (.t 92), none, [], false⟩])
                      (.cond (.t 8) (.skip)
                       (.reg [
                         ⟨(some 93), .fad 0 (.t 3), none, [], false⟩,
                         ⟨(some 94), .ld1 (.t 93), none, [], false⟩,
                         ⟨(some 95), .bin .lss (.t 94) (.k (.int .i64 0)), none, [], false⟩,
                         ⟨(some 96), .mv (.t 95), none, [], false⟩,
                         ⟨(some 97), .fad 11 (.t 3), (some (96, false)), [], false⟩,
                         ⟨(some 98), .ld1 (.t 97), (some (96, false)), [], false⟩,
                         ⟨(some 99), .bin .lss (.t 98) (.k (.int .i64 0)), (some (96, false)), [], false⟩,
                         ⟨(some 100), .pick (.t 96) (.k (.bool true)) (.t 99), none, [], false⟩,
                         ⟨(some 101), .mv (.t 100), none, [], false⟩,
                         ⟨(some 102), .fad 12 (.t 3), (some (101, false)), [], false⟩,
                         ⟨(some 103), .ld1 (.t 102), (some (101, false)), [], false⟩,
                         ⟨(some 104), .bin .lss (.t 103) (.k (.int .i64 0)), (some (101, false)), [], false⟩,
                         ⟨(some 105), .pick (.t 101) (.k (.bool true)) (.t 104), none, [], false⟩,
                         ⟨(some 8), .mv (.t 105), none, [], false⟩])))))))))))))))
         (.cond (.t 8) (.seq (.reg [
             ⟨(some 2), .mv (.k (.int .i64 4)), none, [], false⟩])
           (.ret))
          (.seq (.reg [
             ⟨(some 107), .fad 1 (.t 3), none, [], false⟩,
             ⟨(some 108), .ld1 (.t 107), none, [], false⟩,
             ⟨(some 109), .bin .lss (.t 108) (.k (.int .i64 0)), none, [], false⟩,
             ⟨(some 110), .mv (.t 109), none, [], false⟩,
             ⟨(some 111), .fad 1 (.t 3), (some (110, false)), [], false⟩,
             ⟨(some 112), .ld1 (.t 111), (some (110, false)), [], false⟩,
             ⟨(some 113), .bin .gtr (.t 112) (.k (.int .i64 2)), (some (110, false)), [], false⟩,
             ⟨(some 114), .pick (.t 110) (.k (.bool true)) (.t 113), none, [], false⟩,
             ⟨(some 106), .mv (.t 114), none, [], false⟩])
           (.cond (.t 106) (.seq (.reg [
               ⟨(some 2), .mv (.k (.int .i64 1)), none, [], false⟩])
             (.ret))
            (.skip))))))
       (.seq (.seq (.reg [
           ⟨(some 115), .fad 14 (.t 1), none, [], false⟩,
           ⟨(some 116), .ldn 6 (.t 115), none, [], false⟩,
           ⟨(some 117), .call (.k (.fn 99 [])) [(.t 116)], none, [], false⟩,
           ⟨(some 5), .mv (.t 117), none, [], false⟩])
         (.seq (.reg [
            ⟨(some 118), .mv (.t 5), none, [], false⟩,
            ⟨(some 119), .bin .neq (.t 118) (.k (.int .i64 0)), none, [], false⟩])
          (.cond (.t 119) (.seq (.reg [
              ⟨(some 120), .mv (.t 5), none, [], false⟩,
              ⟨(some 2), .mv (.t 120), none, [], false⟩])
            (.ret))
           (.skip))))
        (.seq (.seq (.reg [
            ⟨(some 121), .fad 14 (.t 1), none, [], false⟩,
            ⟨(some 122), .fad 0 (.t 121), none, [], false⟩,
            ⟨(some 123), .ld1 (.t 122), none, [], false⟩,
            ⟨(some 124), .fad 2 (.t 3), none, [], false⟩,
            ⟨(some 125), .ld1 (.t 124), none, [], false⟩,
            ⟨(some 126), .bin .gtr (.t 123) (.t 125), none, [], false⟩])
          (.cond (.t 126) (.seq (.reg [
              ⟨(some 2), .mv (.k (.int .i64 12)), none, [], false⟩])
            (.ret))
           (.skip)))
         (.seq (.reg [
            ⟨(some 2), .mv (.k (.int .i64 0)), none, [], false⟩])
          (.ret)))))))
/-- skyway/alert.check -/
def c60 : CF where
  np := 6
  nt := 70
  res := [.t 12]
  code := .seq (.reg [
      ⟨(some 6), .box (.t 0), none, [], false⟩,
      ⟨(some 7), .box (.t 1), none, [], false⟩,
      ⟨(some 8), .box (.t 2), none, [], false⟩,
      ⟨(some 12), .mv (.k (.int .i64 0)), none, [], false⟩])
    (.seq (.seq (.reg [
        ⟨(some 16), .ldn 20 (.t 6), none, [], false⟩,
        ⟨(some 17), .ldn 20 (.t 7), none, [], false⟩,
        ⟨(some 18), .mk [.int .i64 0, .int .i64 0, .int .i64 0, .int .i64 0, .int .i64 0, .int .i64 0, .int .i64 0, .int .i64 0, .int .i64 0, .int .i64 0, .int .i64 0, .int .i64 0, .int .i64 0, .int .i64 0, .int .i64 0, .int .i64 0, .int .i64 0, .int .i64 0, .int .i64 0, .int .i64 0, .int .i64 0, .int .i64 0, .int .i64 0, .int .i64 0, .int .i64 0, .int .i64 0, .int .i64 0, .int .i64 0, .int .i64 0, .int .i64 0, .int .i64 0, .int .i64 0, .int .i64 0, .int .i64 0, .int .i64 0, .int .i64 0, .int .i64 0, .int .i64 0, .int .i64 0, .int .i64 0] [(0, 20, (.t 16)), (20, 20, (.t 17))], none, [], false⟩,
        ⟨(some 19), .mv (.k (.int .i64 0)), none, [], false⟩])
      (.blk 0 (.loop (.seq (.reg [
           ⟨(some 20), .bin .lss (.t 19) (.k (.int .i64 2)), none, [], false⟩])
         (.seq (.cond (.t 20) (.skip)
           (.exit 0))
          (.seq (.blk 1 (.seq (.reg [
               ⟨(some 21), .ixa 2 20 true (.t 18) (.t 19), none, [], false⟩,
               ⟨(some 14), .new [.int .i64 0, .int .i64 0, .int .i64 0, .int .i64 0, .int .i64 0, .int .i64 0, .int .i64 0, .int .i64 0, .int .i64 0, .int .i64 0, .int .i64 0, .int .i64 0, .int .i64 0, .int .i64 0, .int .i64 0, .int .i64 0, .int .i64 0, .int .i64 0, .int .i64 0, .int .i64 0], none, [], false⟩,
               ⟨none, .st 20 (.t 14) (.t 21), none, [], false⟩])
             (.seq (.reg [
                ⟨(some 22), .ldn 20 (.t 14), none, [], false⟩,
                ⟨(some 23), .call (.k (.fn 64 [])) [(.t 22)], none, [], false⟩,
                ⟨(some 15), .mv (.t 23), none, [], false⟩])
              (.seq (.reg [
                 ⟨(some 24), .mv (.t 15), none, [], false⟩,
                 ⟨(some 25), .bin .neq (.t 24) (.k (.int .i64 0)), none, [], false⟩])
               (.cond (.t 25) (.seq (.reg [
                   ⟨(some 26), .mv (.t 15), none, [], false⟩,
                   ⟨(some 12), .mv (.t 26), none, [], false⟩])
                 (.ret))
                (.skip))))))
           (.reg [
             ⟨(some 27), .bin .add (.t 19) (.k (.int .i64 1)), none, [], false⟩,
             ⟨(some 19), .mv (.t 27), none, [], false⟩])))))))
     (.seq (.seq (.reg [
         ⟨(some 28), .fad 0 (.t 8), none, [], false⟩,
         ⟨(some 29), .ld1 (.t 28), none, [], false⟩,
         ⟨(some 30), .bin .lss (.t 29) (.k (.int .i64 0)), none, [], false⟩,
         ⟨(some 31), .mv (.t 30), none, [], false⟩,
         ⟨(some 32), .fad 0 (.t 8), (some (31, false)), [], false⟩,
         ⟨(some 33), .ld1 (.t 32), (some (31, false)), [], false⟩,
         ⟨(some 34), .bin .gtr (.t 33) (.k (.int .i64 1000000)), (some (31, false)), [], false⟩,
         ⟨(some 35), .pick (.t 31) (.k (.bool true)) (.t 34), none, [], false⟩,
         ⟨(some 36), .mv (.t 35), none, [], false⟩,
         ⟨(some 37), .fad 1 (.t 8), (some (36, false)), [], false⟩,
         ⟨(some 38), .ld1 (.t 37), (some (36, false)), [], false⟩,
         ⟨(some 39), .bin .lss (.t 38) (.k (.int .i64 0)), (some (36, false)), [], false⟩,
         ⟨(some 40), .pick (.t 36) (.k (.bool true)) (.t 39), none, [], false⟩,
         ⟨(some 41), .mv (.t 40), none, [], false⟩,
         ⟨(some 42), .fad 1 (.t 8), (some (41, false)), [], false⟩,
         ⟨(some 43), .ld1 (.t 42), (some (41, false)), [], false⟩,
         ⟨(some 44), .bin .gtr (.t 43) (.k (.int .i64 60000)), (some (41, false)), [], false⟩,
         ⟨(some 45), .pick (.t 41) (.k (.bool true)) (.t 44), none, [], false⟩,
         ⟨(some 46), .mv (.t 45), none, [], false⟩,
         ⟨(some 47), .mv (.t 3), (some (46, false)), [], false⟩,
         ⟨(some 48), .bin .lss (.t 47) (.k (.int .i64 0)), (some (46, false)), [], false⟩,
         ⟨(some 49), .pick (.t 46) (.k (.bool true)) (.t 48), none, [], false⟩,
         ⟨(some 50), .mv (.t 49), none, [], false⟩,
         ⟨(some 51), .mv (.t 3), (some (50, false)), [], false⟩,
         ⟨(some 52), .bin .gtr (.t 51) (.k (.int .i64 300)), (some (50, false)), [], false⟩,
         ⟨(some 53), .pick (.t 50) (.k (.bool true)) (.t 52), none, [], false⟩,
         ⟨(some 54), .mv (.t 53), none, [], false⟩,
         ⟨(some 55), .mv (.t 4), (some (54, false)), [], false⟩,
         ⟨(some 56), .bin .lss (.t 55) (.k (.int .i64 0)), (some (54, false)), [], false⟩,
         ⟨(some 57), .pick (.t 54) (.k (.bool true)) (.t 56), none, [], false⟩,
         ⟨(some 58), .mv (.t 57), none, [], false⟩,
         ⟨(some 59), .mv (.t 4), (some (58, false)), [], false⟩,
         ⟨(some 60), .bin .gtr (.t 59) (.k (.int .i64 20)), (some (58, false)), [], false⟩,
         ⟨(some 61), .pick (.t 58) (.k (.bool true)) (.t 60), none, [], false⟩,
         ⟨(some 62), .mv (.t 61), none, [], false⟩,
         ⟨(some 63), .mv (.t 5), (some (62, false)), [], false⟩,
         ⟨(some 64), .bin .lss (.t 63) (.k (.int .i64 0)), (some (62, false)), [], false⟩,
         ⟨(some 65), .pick (.t 62) (.k (.bool true)) (.t 64), none, [], false⟩,
         ⟨(some 66), .mv (.t 65), none, [], false⟩,
         ⟨(some 67), .mv (.t 5), (some (66, false)), [], false⟩,
         ⟨(some 68), .bin .gtr (.t 67) (.k (.int .i64 200)), (some (66, false)), [], false⟩,
         ⟨(some 69), .pick (.t 66) (.k (.bool true)) (.t 68), none, [], false⟩])
       (.cond (.t 69) (.seq (.reg [
           ⟨(some 12), .mv (.k (.int .i64 4)), none, [], false⟩])
         (.ret))
        (.skip)))
      (.seq (.reg [
         ⟨(some 12), .mv (.k (.int .i64 0)), none, [], false⟩])
       (.ret))))
/-- skyway/filter.down -/
def c100 : CF where
  np := 2
  nt := 14
  res := [.t 4]
  code := .seq (.reg [
      ⟨(some 4), .mv (.k (.int .i64 0)), none, [], false⟩])
    (.seq (.reg [
       ⟨(some 8), .mv (.t 0), none, [], false⟩,
       ⟨(some 9), .mv (.t 1), none, [], false⟩,
       ⟨(some 10), .call (.k (.fn 58 [])) [(.t 8), (.t 9)], none, [], false⟩,
       ⟨(some 7), .mv (.t 10), none, [], false⟩,
       ⟨(some 11), .ext (.t 7) 0, none, [], false⟩,
       ⟨(some 12), .ext (.t 7) 1, none, [], false⟩,
       ⟨(some 5), .mv (.t 11), none, [], false⟩,
       ⟨(some 6), .mv (.t 12), none, [], false⟩])
     (.seq (.reg [
        ⟨(some 13), .mv (.t 5), none, [], false⟩,
        ⟨(some 4), .mv (.t 13), none, [], false⟩])
      (.ret)))
/-- skyway/num.Between -/
def c101 : CF where
  np := 3
  nt := 12
  res := [.t 6]
  code := .seq (.reg [
      ⟨(some 6), .mv (.k (.int .i64 0)), none, [], false⟩])
    (.seq (.reg [
       ⟨(some 7), .mv (.t 1), none, [], false⟩,
       ⟨(some 8), .mv (.t 0), none, [], false⟩,
       ⟨(some 9), .mv (.t 2), none, [], false⟩,
       ⟨(some 10), .mnx false (.t 8) [(.t 9)], none, [], false⟩,
       ⟨(some 11), .mnx true (.t 7) [(.t 10)], none, [], false⟩,
       ⟨(some 6), .mv (.t 11), none, [], false⟩])
     (.ret))
/-- skyway/num.DivUp -/
def c120 : CF where
  np := 2
  nt := 26
  res := [.t 4, .t 5]
  code := .seq (.reg [
      ⟨(some 4), .mv (.k (.int .i64 0)), none, [], false⟩,
      ⟨(some 5), .mv (.k (.int .i64 0)), none, [], false⟩])
    (.seq (.reg [
       ⟨(some 9), .mv (.t 0), none, [], false⟩,
       ⟨(some 10), .mv (.t 1), none, [], false⟩,
       ⟨(some 11), .call (.k (.fn 58 [])) [(.t 9), (.t 10)], none, [], false⟩,
       ⟨(some 8), .mv (.t 11), none, [], false⟩,
       ⟨(some 12), .ext (.t 8) 0, none, [], false⟩,
       ⟨(some 13), .ext (.t 8) 1, none, [], false⟩,
       ⟨(some 6), .mv (.t 12), none, [], false⟩,
       ⟨(some 7), .mv (.t 13), none, [], false⟩])
     (.seq (.seq (.reg [
         ⟨(some 14), .mv (.t 7), none, [], false⟩,
         ⟨(some 15), .bin .eql (.t 14) (.k (.int .i64 0)), none, [], false⟩,
         ⟨(some 16), .mv (.t 15), none, [], false⟩,
         ⟨(some 17), .mv (.t 0), (some (16, true)), [], false⟩,
         ⟨(some 18), .mv (.t 1), (some (16, true)), [], false⟩,
         ⟨(some 19), .bin .rem (.t 17) (.t 18), (some (16, true)), [], false⟩,
         ⟨(some 20), .bin .neq (.t 19) (.k (.int .i64 0)), (some (16, true)), [], false⟩,
         ⟨(some 21), .pick (.t 16) (.t 20) (.k (.bool false)), none, [], false⟩])
       (.cond (.t 21) (.reg [
          ⟨(some 22), .mv (.t 6), none, [], false⟩,
          ⟨(some 23), .bin .add (.t 22) (.k (.int .i64 1)), none, [], false⟩,
          ⟨(some 6), .mv (.t 23), none, [], false⟩])
        (.skip)))
      (.seq (.reg [
         ⟨(some 24), .mv (.t 6), none, [], false⟩,
         ⟨(some 25), .mv (.t 7), none, [], false⟩,
         ⟨(some 4), .mv (.t 24), none, [], false⟩,
         ⟨(some 5), .mv (.t 25), none, [], false⟩])
       (.ret))))
/-- skyway/filter.up -/
def c102 : CF where
  np := 2
  nt := 14
  res := [.t 4]
  code := .seq (.reg [
      ⟨(some 4), .mv (.k (.int .i64 0)), none, [], false⟩])
    (.seq (.reg [
       ⟨(some 8), .mv (.t 0), none, [], false⟩,
       ⟨(some 9), .mv (.t 1), none, [], false⟩,
       ⟨(some 10), .call (.k (.fn 120 [])) [(.t 8), (.t 9)], none, [], false⟩,
       ⟨(some 7), .mv (.t 10), none, [], false⟩,
       ⟨(some 11), .ext (.t 7) 0, none, [], false⟩,
       ⟨(some 12), .ext (.t 7) 1, none, [], false⟩,
       ⟨(some 5), .mv (.t 11), none, [], false⟩,
       ⟨(some 6), .mv (.t 12), none, [], false⟩])
     (.seq (.reg [
        ⟨(some 13), .mv (.t 5), none, [], false⟩,
        ⟨(some 4), .mv (.t 13), none, [], false⟩])
      (.ret)))
/-- skyway/filter.Predict -/
def c65 : CF where
  np := 3
  nt := 136
  res := [.cn 20 6, .t 7]
  code := .seq (.reg [
      ⟨(some 3), .box (.t 0), none, [], false⟩,
      ⟨(some 6), .new [.int .i64 0, .int .i64 0, .int .i64 0, .int .i64 0, .int .i64 0, .int .i64 0, .int .i64 0, .int .i64 0, .int .i64 0, .int .i64 0, .int .i64 0, .int .i64 0, .int .i64 0, .int .i64 0, .int .i64 0, .int .i64 0, .int .i64 0, .int .i64 0, .int .i64 0, .int .i64 0], none, [], false⟩,
      ⟨(some 7), .mv (.k (.int .i64 0)), none, [], false⟩])
    (.seq (.seq (.reg [
        ⟨(some 11), .ldn 20 (.t 3), none, [], false⟩,
        ⟨(some 12), .call (.k (.fn 64 [])) [(.t 11)], none, [], false⟩,
        ⟨(some 8), .mv (.t 12), none, [], false⟩])
      (.seq (.reg [
         ⟨(some 13), .mv (.t 8), none, [], false⟩,
         ⟨(some 14), .bin .neq (.t 13) (.k (.int .i64 0)), none, [], false⟩])
       (.cond (.t 14) (.seq (.reg [
           ⟨(some 15), .mk [.int .i64 0, .int .i64 0, .int .i64 0, .int .i64 0, .int .i64 0, .int .i64 0, .int .i64 0, .int .i64 0, .int .i64 0, .int .i64 0, .int .i64 0, .int .i64 0, .int .i64 0, .int .i64 0, .int .i64 0, .int .i64 0, .int .i64 0, .int .i64 0, .int .i64 0, .int .i64 0] [], none, [], false⟩,
           ⟨(some 16), .mv (.t 8), none, [], false⟩,
           ⟨none, .st 20 (.t 6) (.t 15), none, [], false⟩,
           ⟨(some 7), .mv (.t 16), none, [], false⟩])
         (.ret))
        (.skip))))
     (.seq (.reg [
        ⟨(some 17), .mv (.t 1), none, [], false⟩,
        ⟨(some 18), .fad 0 (.t 3), none, [], false⟩,
        ⟨(some 19), .fad 2 (.t 18), none, [], false⟩,
        ⟨(some 20), .ld1 (.t 19), none, [], false⟩,
        ⟨(some 21), .bin .sub (.t 17) (.t 20), none, [], false⟩,
        ⟨(some 9), .mv (.t 21), none, [], false⟩])
      (.seq (.blk 0 (.seq (.reg [
           ⟨(some 23), .mv (.t 1), none, [], false⟩,
           ⟨(some 24), .bin .lss (.t 23) (.k (.int .i64 0)), none, [], false⟩,
           ⟨(some 25), .mv (.t 24), none, [], false⟩,
           ⟨(some 26), .mv (.t 1), (some (25, false)), [], false⟩,
           ⟨(some 27), .bin .gtr (.t 26) (.k (.int .i64 200000)), (some (25, false)), [], false⟩,
           ⟨(some 28), .pick (.t 25) (.k (.bool true)) (.t 27), none, [], false⟩,
           ⟨(some 29), .mv (.t 28), none, [], false⟩,
           ⟨(some 30), .mv (.t 2), (some (29, false)), [], false⟩,
           ⟨(some 31), .bin .lss (.t 30) (.k (.int .i64 0)), (some (29, false)), [], false⟩,
           ⟨(some 32), .pick (.t 29) (.k (.bool true)) (.t 31), none, [], false⟩,
           ⟨(some 33), .mv (.t 32), none, [], false⟩,
           ⟨(some 34), .mv (.t 2), (some (33, false)), [], false⟩,
           ⟨(some 35), .bin .gtr (.t 34) (.k (.int .i64 20)), (some (33, false)), [], false⟩,
           ⟨(some 36), .pick (.t 33) (.k (.bool true)) (.t 35), none, [], false⟩,
           ⟨(some 22), .mv (.t 36), none, [], false⟩])
         (.cond (.t 22) (.seq (.reg [
             ⟨(some 37), .mk [.int .i64 0, .int .i64 0, .int .i64 0, .int .i64 0, .int .i64 0, .int .i64 0, .int .i64 0, .int .i64 0, .int .i64 0, .int .i64 0, .int .i64 0, .int .i64 0, .int .i64 0, .int .i64 0, .int .i64 0, .int .i64 0, .int .i64 0, .int .i64 0, .int .i64 0, .int .i64 0] [], none, [], false⟩,
             ⟨none, .st 20 (.t 6) (.t 37), none, [], false⟩,
             ⟨(some 7), .mv (.k (.int .i64 4)), none, [], false⟩])
           (.ret))
          (.seq (.reg [
             ⟨(some 39), .mv (.t 9), none, [], false⟩,
             ⟨(some 40), .bin .lss (.t 39) (.k (.int .i64 0)), none, [], false⟩,
             ⟨(some 41), .mv (.t 40), none, [], false⟩,
             ⟨(some 42), .mv (.t 9), (some (41, false)), [], false⟩,
             ⟨(some 43), .bin .gtr (.t 42) (.k (.int .i64 600)), (some (41, false)), [], false⟩,
             ⟨(some 44), .pick (.t 41) (.k (.bool true)) (.t 43), none, [], false⟩,
             ⟨(some 38), .mv (.t 44), none, [], false⟩])
           (.cond (.t 38) (.seq (.reg [
               ⟨(some 45), .mk [.int .i64 0, .int .i64 0, .int .i64 0, .int .i64 0, .int .i64 0, .int .i64 0, .int .i64 0, .int .i64 0, .int .i64 0, .int .i64 0, .int .i64 0, .int .i64 0, .int .i64 0, .int .i64 0, .int .i64 0, .int .i64 0, .int .i64 0, .int .i64 0, .int .i64 0, .int .i64 0] [], none, [], false⟩,
               ⟨none, .st 20 (.t 6) (.t 45), none, [], false⟩,
               ⟨(some 7), .mv (.k (.int .i64 12)), none, [], false⟩])
             (.ret))
            (.seq (.reg [
               ⟨(some 47), .mv (.t 9), none, [], false⟩,
               ⟨(some 48), .bin .eql (.t 47) (.k (.int .i64 0)), none, [], false⟩,
               ⟨(some 46), .mv (.t 48), none, [], false⟩])
             (.cond (.t 46) (.seq (.reg [
                 ⟨(some 49), .ldn 20 (.t 3), none, [], false⟩,
                 ⟨none, .st 20 (.t 6) (.t 49), none, [], false⟩,
                 ⟨(some 7), .mv (.k (.int .i64 0)), none, [], false⟩])
               (.ret))
              (.skip))))))))
       (.seq (.reg [
          ⟨(some 50), .fad 0 (.t 3), none, [], false⟩,
          ⟨(some 10), .mv (.t 50), none, [], false⟩])
        (.seq (.reg [
           ⟨(some 51), .mv (.t 10), none, [], false⟩,
           ⟨(some 52), .mv (.t 1), none, [], false⟩,
           ⟨(some 53), .nchk (.t 51), none, [], false⟩,
           ⟨(some 54), .fad 2 (.t 53), none, [], false⟩,
           ⟨none, .st 1 (.t 54) (.t 52), none, [], false⟩])
         (.seq (.reg [
            ⟨(some 55), .mv (.t 10), none, [], false⟩,
            ⟨(some 56), .mv (.t 10), none, [], false⟩,
            ⟨(some 57), .nchk (.t 56), none, [], false⟩,
            ⟨(some 58), .fad 3 (.t 57), none, [], false⟩,
            ⟨(some 59), .fad 0 (.t 58), none, [], false⟩,
            ⟨(some 60), .ld1 (.t 59), none, [], false⟩,
            ⟨(some 61), .mv (.t 10), none, [], false⟩,
            ⟨(some 62), .nchk (.t 61), none, [], false⟩,
            ⟨(some 63), .fad 5 (.t 62), none, [], false⟩,
            ⟨(some 64), .fad 0 (.t 63), none, [], false⟩,
            ⟨(some 65), .ld1 (.t 64), none, [], false⟩,
            ⟨(some 66), .mv (.t 9), none, [], false⟩,
            ⟨(some 67), .bin .mul (.t 65) (.t 66), none, [], false⟩,
            ⟨(some 70), .mv (.t 10), none, [], false⟩,
            ⟨(some 71), .nchk (.t 70), none, [], false⟩,
            ⟨(some 72), .fad 3 (.t 71), none, [], false⟩,
            ⟨(some 73), .fad 1 (.t 72), none, [], false⟩,
            ⟨(some 74), .ld1 (.t 73), none, [], false⟩,
            ⟨(some 75), .mv (.t 10), none, [], false⟩,
            ⟨(some 76), .nchk (.t 75), none, [], false⟩,
            ⟨(some 77), .fad 5 (.t 76), none, [], false⟩,
            ⟨(some 78), .fad 1 (.t 77), none, [], false⟩,
            ⟨(some 79), .ld1 (.t 78), none, [], false⟩,
            ⟨(some 80), .mv (.t 9), none, [], false⟩,
            ⟨(some 81), .bin .mul (.t 79) (.t 80), none, [], false⟩,
            ⟨(some 68), .call (.k (.fn 100 [])) [(.t 67), (.k (.int .i64 16))], none, [], true⟩,
            ⟨(some 69), .bin .add (.t 60) (.t 68), none, [], false⟩,
            ⟨(some 82), .call (.k (.fn 100 [])) [(.t 81), (.k (.int .i64 16))], none, [], true⟩,
            ⟨(some 83), .bin .add (.t 74) (.t 82), none, [], false⟩,
            ⟨(some 84), .mk [.int .i64 0, .int .i64 0] [(0, 1, (.t 69)), (1, 1, (.t 83))], none, [], false⟩,
            ⟨(some 85), .nchk (.t 55), none, [], false⟩,
            ⟨(some 86), .fad 3 (.t 85), none, [], false⟩,
            ⟨none, .st 2 (.t 86) (.t 84), none, [], false⟩])
          (.seq (.reg [
             ⟨(some 87), .mv (.t 10), none, [], false⟩,
             ⟨(some 88), .mv (.t 10), none, [], false⟩,
             ⟨(some 89), .nchk (.t 88), none, [], false⟩,
             ⟨(some 90), .fad 7 (.t 89), none, [], false⟩,
             ⟨(some 91), .ld1 (.t 90), none, [], false⟩,
             ⟨(some 92), .mv (.t 10), none, [], false⟩,
             ⟨(some 93), .nchk (.t 92), none, [], false⟩,
             ⟨(some 94), .fad 8 (.t 93), none, [], false⟩,
             ⟨(some 95), .ld1 (.t 94), none, [], false⟩,
             ⟨(some 96), .mv (.t 9), none, [], false⟩,
             ⟨(some 97), .bin .mul (.t 95) (.t 96), none, [], false⟩,
             ⟨(some 98), .call (.k (.fn 100 [])) [(.t 97), (.k (.int .i64 16))], none, [], true⟩,
             ⟨(some 99), .bin .add (.t 91) (.t 98), none, [], false⟩,
             ⟨(some 100), .call (.k (.fn 101 [])) [(.t 99), (.k (.int .i64 0)), (.k (.int .i64 60000))], none, [], false⟩,
             ⟨(some 101), .nchk (.t 87), none, [], false⟩,
             ⟨(some 102), .fad 7 (.t 101), none, [], false⟩,
             ⟨none, .st 1 (.t 102) (.t 100), none, [], false⟩])
           (.seq (.reg [
              ⟨(some 103), .mv (.t 10), none, [], false⟩,
              ⟨(some 104), .nchk (.t 103), none, [], false⟩,
              ⟨(some 105), .fad 9 (.t 104), none, [], false⟩,
              ⟨(some 106), .ld1 (.t 105), none, [], false⟩,
              ⟨(some 107), .fad 13 (.t 3), none, [], false⟩,
              ⟨(some 108), .ld1 (.t 107), none, [], false⟩,
              ⟨(some 109), .mv (.t 9), none, [], false⟩,
              ⟨(some 110), .bin .mul (.t 108) (.t 109), none, [], false⟩,
              ⟨(some 112), .mv (.t 2), none, [], false⟩,
              ⟨(some 113), .mv (.t 9), none, [], false⟩,
              ⟨(some 114), .bin .mul (.t 112) (.t 113), none, [], false⟩,
              ⟨(some 115), .mv (.t 9), none, [], false⟩,
              ⟨(some 116), .bin .mul (.t 114) (.t 115), none, [], false⟩,
              ⟨(some 111), .call (.k (.fn 102 [])) [(.t 110), (.k (.int .i64 16))], none, [], true⟩,
              ⟨(some 117), .call (.k (.fn 102 [])) [(.t 116), (.k (.int .i64 2))], none, [], true⟩,
              ⟨(some 118), .bin .add (.t 111) (.t 117), none, [], false⟩,
              ⟨(some 119), .bin .add (.t 118) (.k (.int .i64 2)), none, [], false⟩,
              ⟨(some 120), .bin .add (.t 106) (.t 119), none, [], false⟩,
              ⟨(some 121), .nchk (.t 103), none, [], false⟩,
              ⟨(some 122), .fad 9 (.t 121), none, [], false⟩,
              ⟨none, .st 1 (.t 122) (.t 120), none, [], false⟩])
            (.seq (.reg [
               ⟨(some 123), .fad 13 (.t 3), none, [], false⟩,
               ⟨(some 124), .ld1 (.t 123), none, [], false⟩,
               ⟨(some 125), .mv (.t 2), none, [], false⟩,
               ⟨(some 126), .bin .mul (.k (.int .i64 16)) (.t 125), none, [], false⟩,
               ⟨(some 127), .mv (.t 9), none, [], false⟩,
               ⟨(some 128), .bin .mul (.t 126) (.t 127), none, [], false⟩,
               ⟨(some 129), .bin .add (.t 124) (.t 128), none, [], false⟩,
               ⟨(some 130), .fad 13 (.t 3), none, [], false⟩,
               ⟨none, .st 1 (.t 130) (.t 129), none, [], false⟩])
             (.seq (.seq (.reg [
                 ⟨(some 131), .ldn 20 (.t 3), none, [], false⟩,
                 ⟨(some 132), .call (.k (.fn 64 [])) [(.t 131)], none, [], false⟩,
                 ⟨(some 133), .bin .neq (.t 132) (.k (.int .i64 0)), none, [], false⟩])
               (.cond (.t 133) (.seq (.reg [
                   ⟨(some 134), .mk [.int .i64 0, .int .i64 0, .int .i64 0, .int .i64 0, .int .i64 0, .int .i64 0, .int .i64 0, .int .i64 0, .int .i64 0, .int .i64 0, .int .i64 0, .int .i64 0, .int .i64 0, .int .i64 0, .int .i64 0, .int .i64 0, .int .i64 0, .int .i64 0, .int .i64 0, .int .i64 0] [], none, [], false⟩,
                   ⟨none, .st 20 (.t 6) (.t 134), none, [], false⟩,
                   ⟨(some 7), .mv (.k (.int .i64 8)), none, [], false⟩])
                 (.ret))
                (.skip)))
              (.seq (.reg [
                 ⟨(some 135), .ldn 20 (.t 3), none, [], false⟩,
                 ⟨none, .st 20 (.t 6) (.t 135), none, [], false⟩,
                 ⟨(some 7), .mv (.k (.int .i64 0)), none, [], false⟩])
               (.ret))))))))))))
/-- skyway/alert.at -/
def c61 : CF where
  np := 5
  nt := 57
  res := [.cn 43 10]
  code := .seq (.reg [
      ⟨(some 5), .box (.t 0), none, [], false⟩,
      ⟨(some 6), .box (.t 1), none, [], false⟩,
      ⟨(some 10), .new [.int .i64 0, .int .i64 0, .int .i64 0, .int .i64 0, .int .i64 0, .int .i64 0, .int .i64 0, .int .i64 0, .int .i64 0, .int .i64 0, .int .i64 0, .int .i64 0, .int .i64 0, .int .i64 0, .int .i64 0, .int .i64 0, .int .i64 0, .int .i64 0, .int .i64 0, .int .i64 0, .int .i64 0, .int .i64 0, .int .i64 0, .int .i64 0, .int .i64 0, .int .i64 0, .int .i64 0, .int .i64 0, .int .i64 0, .int .i64 0, .int .i64 0, .int .i64 0, .int .i64 0, .int .i64 0, .int .i64 0, .int .i64 0, .int .i64 0, .int .i64 0, .int .i64 0, .int .i64 0, .int .i64 0, .int .i64 0, .int .i64 0], none, [], false⟩])
    (.seq (.reg [
       ⟨(some 11), .new [.int .i64 0, .int .i64 0, .int .i64 0, .int .i64 0, .int .i64 0, .int .i64 0, .int .i64 0, .int .i64 0, .int .i64 0, .int .i64 0, .int .i64 0, .int .i64 0, .int .i64 0, .int .i64 0, .int .i64 0, .int .i64 0, .int .i64 0, .int .i64 0, .int .i64 0, .int .i64 0, .int .i64 0, .int .i64 0, .int .i64 0, .int .i64 0, .int .i64 0, .int .i64 0, .int .i64 0, .int .i64 0, .int .i64 0, .int .i64 0, .int .i64 0, .int .i64 0, .int .i64 0, .int .i64 0, .int .i64 0, .int .i64 0, .int .i64 0, .int .i64 0, .int .i64 0, .int .i64 0, .int .i64 0, .int .i64 0, .int .i64 0], none, [], false⟩])
     (.seq (.reg [
        ⟨(some 12), .mv (.k (.int .i64 0)), none, [], false⟩,
        ⟨(some 13), .mv (.k (.int .i64 0)), none, [], false⟩])
      (.seq (.reg [
         ⟨(some 15), .ldn 20 (.t 5), none, [], false⟩,
         ⟨(some 16), .mv (.t 2), none, [], false⟩,
         ⟨(some 17), .mv (.t 3), none, [], false⟩,
         ⟨(some 18), .call (.k (.fn 65 [])) [(.t 15), (.t 16), (.t 17)], none, [], false⟩,
         ⟨(some 14), .mv (.t 18), none, [], false⟩,
         ⟨(some 19), .ext (.t 14) 0, none, [], false⟩,
         ⟨(some 20), .ext (.t 14) 1, none, [], false⟩,
         ⟨(some 21), .fad 0 (.t 11), none, [], false⟩,
         ⟨none, .st 20 (.t 21) (.t 19), none, [], false⟩,
         ⟨(some 12), .mv (.t 20), none, [], false⟩])
       (.seq (.reg [
          ⟨(some 23), .ldn 20 (.t 6), none, [], false⟩,
          ⟨(some 24), .mv (.t 2), none, [], false⟩,
          ⟨(some 25), .mv (.t 3), none, [], false⟩,
          ⟨(some 26), .call (.k (.fn 65 [])) [(.t 23), (.t 24), (.t 25)], none, [], false⟩,
          ⟨(some 22), .mv (.t 26), none, [], false⟩,
          ⟨(some 27), .ext (.t 22) 0, none, [], false⟩,
          ⟨(some 28), .ext (.t 22) 1, none, [], false⟩,
          ⟨(some 29), .fad 20 (.t 11), none, [], false⟩,
          ⟨none, .st 20 (.t 29) (.t 27), none, [], false⟩,
          ⟨(some 13), .mv (.t 28), none, [], false⟩])
        (.seq (.seq (.reg [
            ⟨(some 30), .mv (.t 12), none, [], false⟩,
            ⟨(some 31), .bin .neq (.t 30) (.k (.int .i64 0)), none, [], false⟩,
            ⟨(some 32), .mv (.t 31), none, [], false⟩,
            ⟨(some 33), .mv (.t 13), (some (32, false)), [], false⟩,
            ⟨(some 34), .bin .neq (.t 33) (.k (.int .i64 0)), (some (32, false)), [], false⟩,
            ⟨(some 35), .pick (.t 32) (.k (.bool true)) (.t 34), none, [], false⟩])
          (.cond (.t 35) (.seq (.reg [
              ⟨(some 36), .fad 42 (.t 11), none, [], false⟩,
              ⟨none, .st 1 (.t 36) (.k (.int .i64 8)), none, [], false⟩])
            (.seq (.reg [
               ⟨(some 37), .ldn 43 (.t 11), none, [], false⟩,
               ⟨none, .st 43 (.t 10) (.t 37), none, [], false⟩])
             (.ret)))
           (.skip)))
         (.seq (.reg [
            ⟨(some 38), .mv (.t 4), none, [], false⟩,
            ⟨(some 39), .mv (.t 2), none, [], false⟩,
            ⟨(some 40), .fad 0 (.t 5), none, [], false⟩,
            ⟨(some 41), .fad 2 (.t 40), none, [], false⟩,
            ⟨(some 42), .ld1 (.t 41), none, [], false⟩,
            ⟨(some 43), .bin .sub (.t 39) (.t 42), none, [], false⟩,
            ⟨(some 44), .bin .mul (.t 38) (.t 43), none, [], false⟩,
            ⟨(some 45), .bin .add (.k (.int .i64 100)) (.t 44), none, [], false⟩,
            ⟨(some 46), .fad 40 (.t 11), none, [], false⟩,
            ⟨none, .st 1 (.t 46) (.t 45), none, [], false⟩])
          (.seq (.reg [
             ⟨(some 47), .mv (.t 4), none, [], false⟩,
             ⟨(some 48), .mv (.t 2), none, [], false⟩,
             ⟨(some 49), .fad 0 (.t 6), none, [], false⟩,
             ⟨(some 50), .fad 2 (.t 49), none, [], false⟩,
             ⟨(some 51), .ld1 (.t 50), none, [], false⟩,
             ⟨(some 52), .bin .sub (.t 48) (.t 51), none, [], false⟩,
             ⟨(some 53), .bin .mul (.t 47) (.t 52), none, [], false⟩,
             ⟨(some 54), .bin .add (.k (.int .i64 100)) (.t 53), none, [], false⟩,
             ⟨(some 55), .fad 41 (.t 11), none, [], false⟩,
             ⟨none, .st 1 (.t 55) (.t 54), none, [], false⟩])
           (.seq (.reg [
              ⟨(some 56), .ldn 43 (.t 11), none, [], false⟩,
              ⟨none, .st 43 (.t 10) (.t 56), none, [], false⟩])
            (.ret)))))))))
/-- skyway/alert.square -/
def c96 : CF where
  np := 2
  nt := 28
  res := [.t 4]
  code := .seq (.reg [
      ⟨(some 2), .box (.t 0), none, [], false⟩,
      ⟨(some 3), .box (.t 1), none, [], false⟩,
      ⟨(some 4), .mv (.k (.int .i64 0)), none, [], false⟩])
    (.seq (.reg [
       ⟨(some 5), .fad 0 (.t 2), none, [], false⟩,
       ⟨(some 6), .ld1 (.t 5), none, [], false⟩,
       ⟨(some 7), .fad 0 (.t 3), none, [], false⟩,
       ⟨(some 8), .ld1 (.t 7), none, [], false⟩,
       ⟨(some 9), .bin .sub (.t 6) (.t 8), none, [], false⟩,
       ⟨(some 10), .fad 0 (.t 2), none, [], false⟩,
       ⟨(some 11), .ld1 (.t 10), none, [], false⟩,
       ⟨(some 12), .fad 0 (.t 3), none, [], false⟩,
       ⟨(some 13), .ld1 (.t 12), none, [], false⟩,
       ⟨(some 14), .bin .sub (.t 11) (.t 13), none, [], false⟩,
       ⟨(some 15), .bin .mul (.t 9) (.t 14), none, [], false⟩,
       ⟨(some 16), .fad 1 (.t 2), none, [], false⟩,
       ⟨(some 17), .ld1 (.t 16), none, [], false⟩,
       ⟨(some 18), .fad 1 (.t 3), none, [], false⟩,
       ⟨(some 19), .ld1 (.t 18), none, [], false⟩,
       ⟨(some 20), .bin .sub (.t 17) (.t 19), none, [], false⟩,
       ⟨(some 21), .fad 1 (.t 2), none, [], false⟩,
       ⟨(some 22), .ld1 (.t 21), none, [], false⟩,
       ⟨(some 23), .fad 1 (.t 3), none, [], false⟩,
       ⟨(some 24), .ld1 (.t 23), none, [], false⟩,
       ⟨(some 25), .bin .sub (.t 22) (.t 24), none, [], false⟩,
       ⟨(some 26), .bin .mul (.t 20) (.t 25), none, [], false⟩,
       ⟨(some 27), .bin .add (.t 15) (.t 26), none, [], false⟩,
       ⟨(some 4), .mv (.t 27), none, [], false⟩])
     (.ret))
/-- skyway/alert.apart -/
def c97 : CF where
  np := 2
  nt := 12
  res := [.t 4]
  code := .seq (.reg [
      ⟨(some 4), .mv (.k (.int .i64 0)), none, [], false⟩])
    (.seq (.reg [
       ⟨(some 5), .mv (.t 0), none, [], false⟩,
       ⟨(some 6), .mv (.t 1), none, [], false⟩,
       ⟨(some 7), .bin .sub (.t 5) (.t 6), none, [], false⟩,
       ⟨(some 8), .mv (.t 1), none, [], false⟩,
       ⟨(some 9), .mv (.t 0), none, [], false⟩,
       ⟨(some 10), .bin .sub (.t 8) (.t 9), none, [], false⟩,
       ⟨(some 11), .mnx true (.t 7) [(.t 10)], none, [], false⟩,
       ⟨(some 4), .mv (.t 11), none, [], false⟩])
     (.ret))
/-- (skyway/alert.pair).certain -/
def c62 : CF where
  np := 2
  nt := 55
  res := [.t 4]
  code := .seq (.reg [
      ⟨(some 2), .box (.t 0), none, [], false⟩,
      ⟨(some 3), .box (.t 1), none, [], false⟩,
      ⟨(some 4), .mv (.k (.bool false)), none, [], false⟩])
    (.seq (.reg [
       ⟨(some 6), .fad 0 (.t 3), none, [], false⟩,
       ⟨(some 7), .ld1 (.t 6), none, [], false⟩,
       ⟨(some 8), .fad 0 (.t 2), none, [], false⟩,
       ⟨(some 9), .fad 0 (.t 8), none, [], false⟩,
       ⟨(some 10), .fad 9 (.t 9), none, [], false⟩,
       ⟨(some 11), .ld1 (.t 10), none, [], false⟩,
       ⟨(some 12), .bin .sub (.t 7) (.t 11), none, [], false⟩,
       ⟨(some 13), .fad 20 (.t 2), none, [], false⟩,
       ⟨(some 14), .fad 0 (.t 13), none, [], false⟩,
       ⟨(some 15), .fad 9 (.t 14), none, [], false⟩,
       ⟨(some 16), .ld1 (.t 15), none, [], false⟩,
       ⟨(some 17), .bin .sub (.t 12) (.t 16), none, [], false⟩,
       ⟨(some 5), .mv (.t 17), none, [], false⟩])
     (.seq (.reg [
        ⟨(some 18), .mv (.t 5), none, [], false⟩,
        ⟨(some 19), .bin .gtr (.t 18) (.k (.int .i64 0)), none, [], false⟩,
        ⟨(some 20), .mv (.t 19), none, [], false⟩,
        ⟨(some 21), .fad 0 (.t 2), (some (20, true)), [], false⟩,
        ⟨(some 22), .fad 0 (.t 21), (some (20, true)), [], false⟩,
        ⟨(some 23), .fad 3 (.t 22), (some (20, true)), [], false⟩,
        ⟨(some 24), .ldn 2 (.t 23), (some (20, true)), [], false⟩,
        ⟨(some 25), .fad 20 (.t 2), (some (20, true)), [], false⟩,
        ⟨(some 26), .fad 0 (.t 25), (some (20, true)), [], false⟩,
        ⟨(some 27), .fad 3 (.t 26), (some (20, true)), [], false⟩,
        ⟨(some 28), .ldn 2 (.t 27), (some (20, true)), [], false⟩,
        ⟨(some 30), .mv (.t 5), (some (20, true)), [], false⟩,
        ⟨(some 31), .mv (.t 5), (some (20, true)), [], false⟩,
        ⟨(some 32), .bin .mul (.t 30) (.t 31), (some (20, true)), [], false⟩,
        ⟨(some 29), .call (.k (.fn 96 [])) [(.t 24), (.t 28)], (some (20, true)), [], false⟩,
        ⟨(some 33), .bin .lss (.t 29) (.t 32), (some (20, true)), [], false⟩,
        ⟨(some 34), .pick (.t 20) (.t 33) (.k (.bool false)), none, [], false⟩,
        ⟨(some 35), .mv (.t 34), none, [], false⟩,
        ⟨(some 36), .fad 0 (.t 2), (some (35, true)), [], false⟩,
        ⟨(some 37), .fad 0 (.t 36), (some (35, true)), [], false⟩,
        ⟨(some 38), .fad 7 (.t 37), (some (35, true)), [], false⟩,
        ⟨(some 39), .ld1 (.t 38), (some (35, true)), [], false⟩,
        ⟨(some 40), .fad 20 (.t 2), (some (35, true)), [], false⟩,
        ⟨(some 41), .fad 0 (.t 40), (some (35, true)), [], false⟩,
        ⟨(some 42), .fad 7 (.t 41), (some (35, true)), [], false⟩,
        ⟨(some 43), .ld1 (.t 42), (some (35, true)), [], false⟩,
        ⟨(some 45), .fad 1 (.t 3), (some (35, true)), [], false⟩,
        ⟨(some 46), .ld1 (.t 45), (some (35, true)), [], false⟩,
        ⟨(some 47), .fad 40 (.t 2), (some (35, true)), [], false⟩,
        ⟨(some 48), .ld1 (.t 47), (some (35, true)), [], false⟩,
        ⟨(some 49), .bin .sub (.t 46) (.t 48), (some (35, true)), [], false⟩,
        ⟨(some 50), .fad 41 (.t 2), (some (35, true)), [], false⟩,
        ⟨(some 51), .ld1 (.t 50), (some (35, true)), [], false⟩,
        ⟨(some 52), .bin .sub (.t 49) (.t 51), (some (35, true)), [], false⟩,
        ⟨(some 44), .call (.k (.fn 97 [])) [(.t 39), (.t 43)], (some (35, true)), [], true⟩,
        ⟨(some 53), .bin .lss (.t 44) (.t 52), (some (35, true)), [], false⟩,
        ⟨(some 54), .pick (.t 35) (.t 53) (.k (.bool false)), none, [], false⟩,
        ⟨(some 4), .mv (.t 54), none, [], false⟩])
      (.ret)))
/-- skyway/alert.Certain -/
def c19 : CF where
  np := 6
  nt := 55
  res := [.t 12, .t 13]
  code := .seq (.reg [
      ⟨(some 6), .box (.t 0), none, [], false⟩,
      ⟨(some 7), .box (.t 1), none, [], false⟩,
      ⟨(some 8), .box (.t 2), none, [], false⟩,
      ⟨(some 12), .mv (.k (.int .i64 0)), none, [], false⟩,
      ⟨(some 13), .mv (.k (.int .i64 0)), none, [], false⟩])
    (.seq (.seq (.reg [
        ⟨(some 18), .ldn 20 (.t 6), none, [], false⟩,
        ⟨(some 19), .ldn 20 (.t 7), none, [], false⟩,
        ⟨(some 20), .ldn 2 (.t 8), none, [], false⟩,
        ⟨(some 21), .mv (.t 3), none, [], false⟩,
        ⟨(some 22), .mv (.t 4), none, [], false⟩,
        ⟨(some 23), .mv (.t 5), none, [], false⟩,
        ⟨(some 24), .call (.k (.fn 60 [])) [(.t 18), (.t 19), (.t 20), (.t 21), (.t 22), (.t 23)], none, [], false⟩,
        ⟨(some 14), .mv (.t 24), none, [], false⟩])
      (.seq (.reg [
         ⟨(some 25), .mv (.t 14), none, [], false⟩,
         ⟨(some 26), .bin .neq (.t 25) (.k (.int .i64 0)), none, [], false⟩])
       (.cond (.t 26) (.seq (.reg [
           ⟨(some 27), .mv (.t 14), none, [], false⟩,
           ⟨(some 12), .mv (.k (.int .i64 0)), none, [], false⟩,
           ⟨(some 13), .mv (.t 27), none, [], false⟩])
         (.ret))
        (.skip))))
     (.seq (.reg [
        ⟨(some 28), .fad 0 (.t 6), none, [], false⟩,
        ⟨(some 29), .fad 2 (.t 28), none, [], false⟩,
        ⟨(some 30), .ld1 (.t 29), none, [], false⟩,
        ⟨(some 31), .fad 0 (.t 7), none, [], false⟩,
        ⟨(some 32), .fad 2 (.t 31), none, [], false⟩,
        ⟨(some 33), .ld1 (.t 32), none, [], false⟩,
        ⟨(some 34), .mnx true (.t 30) [(.t 33)], none, [], false⟩,
        ⟨(some 15), .mv (.t 34), none, [], false⟩])
      (.seq (.seq (.reg [
          ⟨(some 16), .mv (.k (.int .i64 0)), none, [], false⟩])
        (.blk 0 (.loop (.seq (.seq (.reg [
              ⟨(some 35), .mv (.t 16), none, [], false⟩,
              ⟨(some 36), .mv (.t 3), none, [], false⟩,
              ⟨(some 37), .bin .leq (.t 35) (.t 36), none, [], false⟩])
            (.cond (.t 37) (.skip)
             (.exit 0)))
           (.seq (.blk 1 (.seq (.reg [
                ⟨(some 40), .ldn 20 (.t 6), none, [], false⟩,
                ⟨(some 41), .ldn 20 (.t 7), none, [], false⟩,
                ⟨(some 42), .mv (.t 15), none, [], false⟩,
                ⟨(some 43), .mv (.t 16), none, [], false⟩,
                ⟨(some 44), .bin .add (.t 42) (.t 43), none, [], false⟩,
                ⟨(some 45), .mv (.t 4), none, [], false⟩,
                ⟨(some 46), .mv (.t 5), none, [], false⟩,
                ⟨(some 47), .call (.k (.fn 61 [])) [(.t 40), (.t 41), (.t 44), (.t 45), (.t 46)], none, [], false⟩,
                ⟨(some 17), .new [.int .i64 0, .int .i64 0, .int .i64 0, .int .i64 0, .int .i64 0, .int .i64 0, .int .i64 0, .int .i64 0, .int .i64 0, .int .i64 0, .int .i64 0, .int .i64 0, .int .i64 0, .int .i64 0, .int .i64 0, .int .i64 0, .int .i64 0, .int .i64 0, .int .i64 0, .int .i64 0, .int .i64 0, .int .i64 0, .int .i64 0, .int .i64 0, .int .i64 0, .int .i64 0, .int .i64 0, .int .i64 0, .int .i64 0, .int .i64 0, .int .i64 0, .int .i64 0, .int .i64 0, .int .i64 0, .int .i64 0, .int .i64 0, .int .i64 0, .int .i64 0, .int .i64 0, .int .i64 0, .int .i64 0, .int .i64 0, .int .i64 0], none, [], false⟩,
                ⟨none, .st 43 (.t 17) (.t 47), none, [], false⟩])
              (.seq (.seq (.reg [
                  ⟨(some 48), .fad 42 (.t 17), none, [], false⟩,
                  ⟨(some 49), .ld1 (.t 48), none, [], false⟩,
                  ⟨(some 50), .bin .neq (.t 49) (.k (.int .i64 0)), none, [], false⟩])
                (.cond (.t 50) (.seq (.reg [
                    ⟨(some 12), .mv (.k (.int .i64 0)), none, [], false⟩,
                    ⟨(some 13), .mv (.k (.int .i64 12)), none, [], false⟩])
                  (.ret))
                 (.skip)))
               (.seq (.reg [
                  ⟨(some 51), .ldn 43 (.t 17), none, [], false⟩,
                  ⟨(some 52), .ldn 2 (.t 8), none, [], false⟩,
                  ⟨(some 53), .call (.k (.fn 62 [])) [(.t 51), (.t 52)], none, [], false⟩])
                (.cond (.t 53) (.seq (.reg [
                    ⟨(some 54), .mv (.t 16), none, [], false⟩,
                    ⟨(some 12), .mv (.t 54), none, [], false⟩,
                    ⟨(some 13), .mv (.k (.int .i64 0)), none, [], false⟩])
                  (.ret))
                 (.skip))))))
            (.reg [
              ⟨(some 38), .mv (.t 16), none, [], false⟩,
              ⟨(some 39), .bin .add (.t 38) (.k (.int .i64 1)), none, [], false⟩,
              ⟨(some 16), .mv (.t 39), none, [], false⟩]))))))
       (.seq (.reg [
          ⟨(some 12), .mv (.k (.int .i64 0)), none, [], false⟩,
          ⟨(some 13), .mv (.k (.int .i64 8)), none, [], false⟩])
        (.ret)))))
/-- skyway/skywaykeep2.within -/
def c20 : CF where
  np := 3
  nt := 21
  res := [.t 6]
  code := .seq (.reg [
      ⟨(some 6), .mv (.k (.int .i64 0)), none, [], false⟩])
    (.seq (.reg [
       ⟨(some 8), .mv (.t 2), none, [], false⟩,
       ⟨(some 9), .mv (.t 1), none, [], false⟩,
       ⟨(some 10), .bin .sub (.t 8) (.t 9), none, [], false⟩,
       ⟨(some 11), .bin .add (.t 10) (.k (.int .i64 1)), none, [], false⟩,
       ⟨(some 7), .mv (.t 11), none, [], false⟩])
     (.seq (.reg [
        ⟨(some 12), .mv (.t 1), none, [], false⟩,
        ⟨(some 13), .mv (.t 0), none, [], false⟩,
        ⟨(some 14), .mv (.t 7), none, [], false⟩,
        ⟨(some 15), .bin .rem (.t 13) (.t 14), none, [], false⟩,
        ⟨(some 16), .mv (.t 7), none, [], false⟩,
        ⟨(some 17), .bin .add (.t 15) (.t 16), none, [], false⟩,
        ⟨(some 18), .mv (.t 7), none, [], false⟩,
        ⟨(some 19), .bin .rem (.t 17) (.t 18), none, [], false⟩,
        ⟨(some 20), .bin .add (.t 12) (.t 19), none, [], false⟩,
        ⟨(some 6), .mv (.t 20), none, [], false⟩])
      (.ret)))
/-- (skyway/alert.pair).possible -/
def c63 : CF where
  np := 2
  nt := 51
  res := [.t 4]
  code := .seq (.reg [
      ⟨(some 2), .box (.t 0), none, [], false⟩,
      ⟨(some 3), .box (.t 1), none, [], false⟩,
      ⟨(some 4), .mv (.k (.bool false)), none, [], false⟩])
    (.seq (.reg [
       ⟨(some 6), .fad 0 (.t 3), none, [], false⟩,
       ⟨(some 7), .ld1 (.t 6), none, [], false⟩,
       ⟨(some 8), .fad 0 (.t 2), none, [], false⟩,
       ⟨(some 9), .fad 0 (.t 8), none, [], false⟩,
       ⟨(some 10), .fad 9 (.t 9), none, [], false⟩,
       ⟨(some 11), .ld1 (.t 10), none, [], false⟩,
       ⟨(some 12), .bin .add (.t 7) (.t 11), none, [], false⟩,
       ⟨(some 13), .fad 20 (.t 2), none, [], false⟩,
       ⟨(some 14), .fad 0 (.t 13), none, [], false⟩,
       ⟨(some 15), .fad 9 (.t 14), none, [], false⟩,
       ⟨(some 16), .ld1 (.t 15), none, [], false⟩,
       ⟨(some 17), .bin .add (.t 12) (.t 16), none, [], false⟩,
       ⟨(some 5), .mv (.t 17), none, [], false⟩])
     (.seq (.reg [
        ⟨(some 18), .fad 0 (.t 2), none, [], false⟩,
        ⟨(some 19), .fad 0 (.t 18), none, [], false⟩,
        ⟨(some 20), .fad 3 (.t 19), none, [], false⟩,
        ⟨(some 21), .ldn 2 (.t 20), none, [], false⟩,
        ⟨(some 22), .fad 20 (.t 2), none, [], false⟩,
        ⟨(some 23), .fad 0 (.t 22), none, [], false⟩,
        ⟨(some 24), .fad 3 (.t 23), none, [], false⟩,
        ⟨(some 25), .ldn 2 (.t 24), none, [], false⟩,
        ⟨(some 27), .mv (.t 5), none, [], false⟩,
        ⟨(some 28), .mv (.t 5), none, [], false⟩,
        ⟨(some 29), .bin .mul (.t 27) (.t 28), none, [], false⟩,
        ⟨(some 26), .call (.k (.fn 96 [])) [(.t 21), (.t 25)], none, [], false⟩,
        ⟨(some 30), .bin .lss (.t 26) (.t 29), none, [], false⟩,
        ⟨(some 31), .mv (.t 30), none, [], false⟩,
        ⟨(some 32), .fad 0 (.t 2), (some (31, true)), [], false⟩,
        ⟨(some 33), .fad 0 (.t 32), (some (31, true)), [], false⟩,
        ⟨(some 34), .fad 7 (.t 33), (some (31, true)), [], false⟩,
        ⟨(some 35), .ld1 (.t 34), (some (31, true)), [], false⟩,
        ⟨(some 36), .fad 20 (.t 2), (some (31, true)), [], false⟩,
        ⟨(some 37), .fad 0 (.t 36), (some (31, true)), [], false⟩,
        ⟨(some 38), .fad 7 (.t 37), (some (31, true)), [], false⟩,
        ⟨(some 39), .ld1 (.t 38), (some (31, true)), [], false⟩,
        ⟨(some 41), .fad 1 (.t 3), (some (31, true)), [], false⟩,
        ⟨(some 42), .ld1 (.t 41), (some (31, true)), [], false⟩,
        ⟨(some 43), .fad 40 (.t 2), (some (31, true)), [], false⟩,
        ⟨(some 44), .ld1 (.t 43), (some (31, true)), [], false⟩,
        ⟨(some 45), .bin .add (.t 42) (.t 44), (some (31, true)), [], false⟩,
        ⟨(some 46), .fad 41 (.t 2), (some (31, true)), [], false⟩,
        ⟨(some 47), .ld1 (.t 46), (some (31, true)), [], false⟩,
        ⟨(some 48), .bin .add (.t 45) (.t 47), (some (31, true)), [], false⟩,
        ⟨(some 40), .call (.k (.fn 97 [])) [(.t 35), (.t 39)], (some (31, true)), [], true⟩,
        ⟨(some 49), .bin .lss (.t 40) (.t 48), (some (31, true)), [], false⟩,
        ⟨(some 50), .pick (.t 31) (.t 49) (.k (.bool false)), none, [], false⟩,
        ⟨(some 4), .mv (.t 50), none, [], false⟩])
      (.ret)))
/-- skyway/alert.First -/
def c21 : CF where
  np := 6
  nt := 55
  res := [.t 12, .t 13]
  code := .seq (.reg [
      ⟨(some 6), .box (.t 0), none, [], false⟩,
      ⟨(some 7), .box (.t 1), none, [], false⟩,
      ⟨(some 8), .box (.t 2), none, [], false⟩,
      ⟨(some 12), .mv (.k (.int .i64 0)), none, [], false⟩,
      ⟨(some 13), .mv (.k (.int .i64 0)), none, [], false⟩])
    (.seq (.seq (.reg [
        ⟨(some 18), .ldn 20 (.t 6), none, [], false⟩,
        ⟨(some 19), .ldn 20 (.t 7), none, [], false⟩,
        ⟨(some 20), .ldn 2 (.t 8), none, [], false⟩,
        ⟨(some 21), .mv (.t 3), none, [], false⟩,
        ⟨(some 22), .mv (.t 4), none, [], false⟩,
        ⟨(some 23), .mv (.t 5), none, [], false⟩,
        ⟨(some 24), .call (.k (.fn 60 [])) [(.t 18), (.t 19), (.t 20), (.t 21), (.t 22), (.t 23)], none, [], false⟩,
        ⟨(some 14), .mv (.t 24), none, [], false⟩])
      (.seq (.reg [
         ⟨(some 25), .mv (.t 14), none, [], false⟩,
         ⟨(some 26), .bin .neq (.t 25) (.k (.int .i64 0)), none, [], false⟩])
       (.cond (.t 26) (.seq (.reg [
           ⟨(some 27), .mv (.t 14), none, [], false⟩,
           ⟨(some 12), .mv (.k (.int .i64 0)), none, [], false⟩,
           ⟨(some 13), .mv (.t 27), none, [], false⟩])
         (.ret))
        (.skip))))
     (.seq (.reg [
        ⟨(some 28), .fad 0 (.t 6), none, [], false⟩,
        ⟨(some 29), .fad 2 (.t 28), none, [], false⟩,
        ⟨(some 30), .ld1 (.t 29), none, [], false⟩,
        ⟨(some 31), .fad 0 (.t 7), none, [], false⟩,
        ⟨(some 32), .fad 2 (.t 31), none, [], false⟩,
        ⟨(some 33), .ld1 (.t 32), none, [], false⟩,
        ⟨(some 34), .mnx true (.t 30) [(.t 33)], none, [], false⟩,
        ⟨(some 15), .mv (.t 34), none, [], false⟩])
      (.seq (.seq (.reg [
          ⟨(some 16), .mv (.k (.int .i64 0)), none, [], false⟩])
        (.blk 0 (.loop (.seq (.seq (.reg [
              ⟨(some 35), .mv (.t 16), none, [], false⟩,
              ⟨(some 36), .mv (.t 3), none, [], false⟩,
              ⟨(some 37), .bin .leq (.t 35) (.t 36), none, [], false⟩])
            (.cond (.t 37) (.skip)
             (.exit 0)))
           (.seq (.blk 1 (.seq (.reg [
                ⟨(some 40), .ldn 20 (.t 6), none, [], false⟩,
                ⟨(some 41), .ldn 20 (.t 7), none, [], false⟩,
                ⟨(some 42), .mv (.t 15), none, [], false⟩,
                ⟨(some 43), .mv (.t 16), none, [], false⟩,
                ⟨(some 44), .bin .add (.t 42) (.t 43), none, [], false⟩,
                ⟨(some 45), .mv (.t 4), none, [], false⟩,
                ⟨(some 46), .mv (.t 5), none, [], false⟩,
                ⟨(some 47), .call (.k (.fn 61 [])) [(.t 40), (.t 41), (.t 44), (.t 45), (.t 46)], none, [], false⟩,
                ⟨(some 17), .new [.int .i64 0, .int .i64 0, .int .i64 0, .int .i64 0, .int .i64 0, .int .i64 0, .int .i64 0, .int .i64 0, .int .i64 0, .int .i64 0, .int .i64 0, .int .i64 0, .int .i64 0, .int .i64 0, .int .i64 0, .int .i64 0, .int .i64 0, .int .i64 0, .int .i64 0, .int .i64 0, .int .i64 0, .int .i64 0, .int .i64 0, .int .i64 0, .int .i64 0, .int .i64 0, .int .i64 0, .int .i64 0, .int .i64 0, .int .i64 0, .int .i64 0, .int .i64 0, .int .i64 0, .int .i64 0, .int .i64 0, .int .i64 0, .int .i64 0, .int .i64 0, .int .i64 0, .int .i64 0, .int .i64 0, .int .i64 0, .int .i64 0], none, [], false⟩,
                ⟨none, .st 43 (.t 17) (.t 47), none, [], false⟩])
              (.seq (.seq (.reg [
                  ⟨(some 48), .fad 42 (.t 17), none, [], false⟩,
                  ⟨(some 49), .ld1 (.t 48), none, [], false⟩,
                  ⟨(some 50), .bin .neq (.t 49) (.k (.int .i64 0)), none, [], false⟩])
                (.cond (.t 50) (.seq (.reg [
                    ⟨(some 12), .mv (.k (.int .i64 0)), none, [], false⟩,
                    ⟨(some 13), .mv (.k (.int .i64 12)), none, [], false⟩])
                  (.ret))
                 (.skip)))
               (.seq (.reg [
                  ⟨(some 51), .ldn 43 (.t 17), none, [], false⟩,
                  ⟨(some 52), .ldn 2 (.t 8), none, [], false⟩,
                  ⟨(some 53), .call (.k (.fn 63 [])) [(.t 51), (.t 52)], none, [], false⟩])
                (.cond (.t 53) (.seq (.reg [
                    ⟨(some 54), .mv (.t 16), none, [], false⟩,
                    ⟨(some 12), .mv (.t 54), none, [], false⟩,
                    ⟨(some 13), .mv (.k (.int .i64 0)), none, [], false⟩])
                  (.ret))
                 (.skip))))))
            (.reg [
              ⟨(some 38), .mv (.t 16), none, [], false⟩,
              ⟨(some 39), .bin .add (.t 38) (.k (.int .i64 1)), none, [], false⟩,
              ⟨(some 16), .mv (.t 39), none, [], false⟩]))))))
       (.seq (.reg [
          ⟨(some 12), .mv (.k (.int .i64 0)), none, [], false⟩,
          ⟨(some 13), .mv (.k (.int .i64 8)), none, [], false⟩])
        (.ret)))))
/-- skyway/skywaykeep2.AlertSure -/
def c4 : CF where
  np := 5
  nt := 154
  res := [.t 10]
  code := .seq (.reg [
      ⟨(some 5), .box (.t 0), none, [], false⟩,
      ⟨(some 6), .box (.t 1), none, [], false⟩,
      ⟨(some 7), .box (.t 2), none, [], false⟩,
      ⟨(some 10), .mv (.k (.bool false)), none, [], false⟩])
    (.seq (.reg [
       ⟨(some 26), .mk [.int .i64 0, .int .i64 0] [(0, 1, (.k (.int .i64 10))), (1, 1, (.k (.int .i64 1000)))], none, [], false⟩,
       ⟨(some 11), .new [.int .i64 0, .int .i64 0], none, [], false⟩,
       ⟨none, .st 2 (.t 11) (.t 26), none, [], false⟩])
     (.seq (.reg [
        ⟨(some 27), .mk [.int .i64 0, .int .i64 0] [(0, 1, (.k (.int .i64 100000)))], none, [], false⟩,
        ⟨(some 28), .mk [.int .i64 0, .int .i64 0, .int .i64 0, .int .i64 0, .int .i64 0, .int .i64 0, .int .i64 0, .int .i64 0, .int .i64 0, .int .i64 0, .int .i64 0, .int .i64 0, .int .i64 0] [(3, 2, (.t 27))], none, [], false⟩,
        ⟨(some 29), .mk [.int .i64 0, .int .i64 0, .int .i64 0, .int .i64 0, .int .i64 0, .int .i64 0, .int .i64 0, .int .i64 0, .int .i64 0, .int .i64 0, .int .i64 0, .int .i64 0, .int .i64 0, .int .i64 0, .int .i64 0, .int .i64 0, .int .i64 0, .int .i64 0, .int .i64 0, .int .i64 0] [(0, 13, (.t 28))], none, [], false⟩,
        ⟨(some 12), .new [.int .i64 0, .int .i64 0, .int .i64 0, .int .i64 0, .int .i64 0, .int .i64 0, .int .i64 0, .int .i64 0, .int .i64 0, .int .i64 0, .int .i64 0, .int .i64 0, .int .i64 0, .int .i64 0, .int .i64 0, .int .i64 0, .int .i64 0, .int .i64 0, .int .i64 0, .int .i64 0], none, [], false⟩,
        ⟨none, .st 20 (.t 12) (.t 29), none, [], false⟩])
      (.seq (.seq (.reg [
          ⟨(some 31), .mk [.int .i64 0, .int .i64 0, .int .i64 0, .int .i64 0, .int .i64 0, .int .i64 0, .int .i64 0, .int .i64 0, .int .i64 0, .int .i64 0, .int .i64 0, .int .i64 0, .int .i64 0, .int .i64 0, .int .i64 0, .int .i64 0, .int .i64 0, .int .i64 0, .int .i64 0, .int .i64 0] [], none, [], false⟩,
          ⟨(some 32), .mk [.int .i64 0, .int .i64 0, .int .i64 0, .int .i64 0, .int .i64 0, .int .i64 0, .int .i64 0, .int .i64 0, .int .i64 0, .int .i64 0, .int .i64 0, .int .i64 0, .int .i64 0, .int .i64 0, .int .i64 0, .int .i64 0, .int .i64 0, .int .i64 0, .int .i64 0, .int .i64 0] [], none, [], false⟩,
          ⟨(some 33), .ldn 2 (.t 11), none, [], false⟩,
          ⟨(some 34), .call (.k (.fn 19 [])) [(.t 31), (.t 32), (.t 33), (.k (.int .i64 1)), (.k (.int .i64 0)), (.k (.int .i64 0))], none, [], false⟩,
          ⟨(some 30), .mv (.t 34), none, [], false⟩,
          ⟨(some 35), .ext (.t 30) 0, none, [], false⟩,
          ⟨(some 36), .ext (.t 30) 1, none, [], false⟩,
          ⟨(some 13), .mv (.t 35), none, [], false⟩,
          ⟨(some 14), .mv (.t 36), none, [], false⟩])
        (.seq (.reg [
           ⟨(some 37), .mv (.t 14), none, [], false⟩,
           ⟨(some 38), .bin .neq (.t 37) (.k (.int .i64 0)), none, [], false⟩,
           ⟨(some 39), .mv (.t 38), none, [], false⟩,
           ⟨(some 40), .mv (.t 13), (some (39, false)), [], false⟩,
           ⟨(some 41), .bin .neq (.t 40) (.k (.int .i64 0)), (some (39, false)), [], false⟩,
           ⟨(some 42), .pick (.t 39) (.k (.bool true)) (.t 41), none, [], false⟩])
         (.cond (.t 42) (.seq (.reg [
             ⟨(some 10), .mv (.k (.bool false)), none, [], false⟩])
           (.ret))
          (.skip))))
       (.seq (.seq (.reg [
           ⟨(some 44), .mk [.int .i64 0, .int .i64 0, .int .i64 0, .int .i64 0, .int .i64 0, .int .i64 0, .int .i64 0, .int .i64 0, .int .i64 0, .int .i64 0, .int .i64 0, .int .i64 0, .int .i64 0, .int .i64 0, .int .i64 0, .int .i64 0, .int .i64 0, .int .i64 0, .int .i64 0, .int .i64 0] [], none, [], false⟩,
           ⟨(some 45), .ldn 20 (.t 12), none, [], false⟩,
           ⟨(some 46), .ldn 2 (.t 11), none, [], false⟩,
           ⟨(some 47), .call (.k (.fn 19 [])) [(.t 44), (.t 45), (.t 46), (.k (.int .i64 1)), (.k (.int .i64 0)), (.k (.int .i64 0))], none, [], false⟩,
           ⟨(some 43), .mv (.t 47), none, [], false⟩,
           ⟨(some 48), .ext (.t 43) 0, none, [], false⟩,
           ⟨(some 49), .ext (.t 43) 1, none, [], false⟩,
           ⟨(some 15), .mv (.t 48), none, [], false⟩,
           ⟨(some 16), .mv (.t 49), none, [], false⟩])
         (.seq (.reg [
            ⟨(some 50), .mv (.t 16), none, [], false⟩,
            ⟨(some 51), .bin .neq (.t 50) (.k (.int .i64 8)), none, [], false⟩])
          (.cond (.t 51) (.seq (.reg [
              ⟨(some 10), .mv (.k (.bool false)), none, [], false⟩])
            (.ret))
           (.skip))))
        (.seq (.reg [
           ⟨(some 52), .mv (.t 4), none, [], false⟩,
           ⟨(some 53), .call (.k (.fn 20 [])) [(.t 52), (.k (.int .i64 0)), (.k (.int .i64 40))], none, [], false⟩,
           ⟨(some 4), .mv (.t 53), none, [], false⟩])
         (.seq (.reg [
            ⟨(some 55), .ldn 20 (.t 5), none, [], false⟩,
            ⟨(some 56), .ldn 20 (.t 6), none, [], false⟩,
            ⟨(some 57), .ldn 2 (.t 7), none, [], false⟩,
            ⟨(some 58), .mv (.t 4), none, [], false⟩,
            ⟨(some 59), .call (.k (.fn 21 [])) [(.t 55), (.t 56), (.t 57), (.t 58), (.k (.int .i64 1)), (.k (.int .i64 10))], none, [], false⟩,
            ⟨(some 54), .mv (.t 59), none, [], false⟩,
            ⟨(some 60), .ext (.t 54) 0, none, [], false⟩,
            ⟨(some 61), .ext (.t 54) 1, none, [], false⟩,
            ⟨(some 17), .mv (.t 60), none, [], false⟩,
            ⟨(some 18), .mv (.t 61), none, [], false⟩])
          (.seq (.reg [
             ⟨(some 63), .ldn 20 (.t 5), none, [], false⟩,
             ⟨(some 64), .ldn 20 (.t 6), none, [], false⟩,
             ⟨(some 65), .ldn 2 (.t 7), none, [], false⟩,
             ⟨(some 66), .mv (.t 4), none, [], false⟩,
             ⟨(some 67), .call (.k (.fn 19 [])) [(.t 63), (.t 64), (.t 65), (.t 66), (.k (.int .i64 1)), (.k (.int .i64 10))], none, [], false⟩,
             ⟨(some 62), .mv (.t 67), none, [], false⟩,
             ⟨(some 68), .ext (.t 62) 0, none, [], false⟩,
             ⟨(some 69), .ext (.t 62) 1, none, [], false⟩,
             ⟨(some 19), .mv (.t 68), none, [], false⟩,
             ⟨(some 20), .mv (.t 69), none, [], false⟩])
           (.seq (.reg [
              ⟨(some 70), .fad 0 (.t 7), none, [], false⟩,
              ⟨(some 71), .ld1 (.t 70), none, [], false⟩,
              ⟨(some 72), .mv (.t 3), none, [], false⟩,
              ⟨(some 75), .fad 1 (.t 7), none, [], false⟩,
              ⟨(some 76), .ld1 (.t 75), none, [], false⟩,
              ⟨(some 21), .new [.int .i64 0, .int .i64 0], none, [], false⟩,
              ⟨(some 73), .call (.k (.fn 20 [])) [(.t 72), (.k (.int .i64 0)), (.k (.int .i64 500))], none, [], true⟩,
              ⟨(some 74), .bin .add (.t 71) (.t 73), none, [], false⟩,
              ⟨(some 77), .mk [.int .i64 0, .int .i64 0] [(0, 1, (.t 74)), (1, 1, (.t 76))], none, [], false⟩,
              ⟨none, .st 2 (.t 21) (.t 77), none, [], false⟩])
            (.seq (.reg [
               ⟨(some 79), .ldn 20 (.t 5), none, [], false⟩,
               ⟨(some 80), .ldn 20 (.t 6), none, [], false⟩,
               ⟨(some 81), .ldn 2 (.t 21), none, [], false⟩,
               ⟨(some 82), .mv (.t 4), none, [], false⟩,
               ⟨(some 83), .call (.k (.fn 21 [])) [(.t 79), (.t 80), (.t 81), (.t 82), (.k (.int .i64 1)), (.k (.int .i64 10))], none, [], false⟩,
               ⟨(some 78), .mv (.t 83), none, [], false⟩,
               ⟨(some 84), .ext (.t 78) 0, none, [], false⟩,
               ⟨(some 85), .ext (.t 78) 1, none, [], false⟩,
               ⟨(some 22), .mv (.t 84), none, [], false⟩,
               ⟨(some 23), .mv (.t 85), none, [], false⟩])
             (.seq (.reg [
                ⟨(some 87), .ldn 20 (.t 6), none, [], false⟩,
                ⟨(some 88), .ldn 20 (.t 5), none, [], false⟩,
                ⟨(some 89), .ldn 2 (.t 7), none, [], false⟩,
                ⟨(some 90), .mv (.t 4), none, [], false⟩,
                ⟨(some 91), .call (.k (.fn 21 [])) [(.t 87), (.t 88), (.t 89), (.t 90), (.k (.int .i64 1)), (.k (.int .i64 10))], none, [], false⟩,
                ⟨(some 86), .mv (.t 91), none, [], false⟩,
                ⟨(some 92), .ext (.t 86) 0, none, [], false⟩,
                ⟨(some 93), .ext (.t 86) 1, none, [], false⟩,
                ⟨(some 24), .mv (.t 92), none, [], false⟩,
                ⟨(some 25), .mv (.t 93), none, [], false⟩])
              (.seq (.seq (.reg [
                  ⟨(some 94), .mv (.t 20), none, [], false⟩,
                  ⟨(some 95), .bin .eql (.t 94) (.k (.int .i64 0)), none, [], false⟩,
                  ⟨(some 96), .mv (.t 95), none, [], false⟩,
                  ⟨(some 97), .mv (.t 18), (some (96, true)), [], false⟩,
                  ⟨(some 98), .bin .neq (.t 97) (.k (.int .i64 0)), (some (96, true)), [], false⟩,
                  ⟨(some 99), .mv (.t 98), (some (96, true)), [], false⟩,
                  ⟨(some 100), .mv (.t 17), (some (99, false)), [], false⟩,
                  ⟨(some 101), .mv (.t 19), (some (99, false)), [], false⟩,
                  ⟨(some 102), .bin .gtr (.t 100) (.t 101), (some (99, false)), [], false⟩,
                  ⟨(some 103), .pick (.t 99) (.k (.bool true)) (.t 102), (some (96, true)), [], false⟩,
                  ⟨(some 104), .pick (.t 96) (.t 103) (.k (.bool false)), none, [], false⟩,
                  ⟨(some 105), .mv (.t 104), none, [], false⟩,
                  ⟨(some 106), .mv (.t 18), (some (105, false)), [], false⟩,
                  ⟨(some 107), .bin .eql (.t 106) (.k (.int .i64 0)), (some (105, false)), [], false⟩,
                  ⟨(some 108), .mv (.t 107), (some (105, false)), [], false⟩,
                  ⟨(some 109), .mv (.t 23), (some (108, true)), [], false⟩,
                  ⟨(some 110), .bin .eql (.t 109) (.k (.int .i64 0)), (some (108, true)), [], false⟩,
                  ⟨(some 111), .pick (.t 108) (.t 110) (.k (.bool false)), (some (105, false)), [], false⟩,
                  ⟨(some 112), .mv (.t 111), (some (105, false)), [], false⟩,
                  ⟨(some 113), .mv (.t 22), (some (112, true)), [], false⟩,
                  ⟨(some 114), .mv (.t 17), (some (112, true)), [], false⟩,
                  ⟨(some 115), .bin .gtr (.t 113) (.t 114), (some (112, true)), [], false⟩,
                  ⟨(some 116), .pick (.t 112) (.t 115) (.k (.bool false)), (some (105, false)), [], false⟩,
                  ⟨(some 117), .pick (.t 105) (.k (.bool true)) (.t 116), none, [], false⟩,
                  ⟨(some 118), .mv (.t 117), none, [], false⟩,
                  ⟨(some 119), .mv (.t 18), (some (118, false)), [], false⟩,
                  ⟨(some 120), .bin .eql (.t 119) (.k (.int .i64 0)), (some (118, false)), [], false⟩,
                  ⟨(some 121), .mv (.t 120), (some (118, false)), [], false⟩,
                  ⟨(some 122), .mv (.t 23), (some (121, true)), [], false⟩,
                  ⟨(some 123), .bin .eql (.t 122) (.k (.int .i64 8)), (some (121, true)), [], false⟩,
                  ⟨(some 124), .pick (.t 121) (.t 123) (.k (.bool false)), (some (118, false)), [], false⟩,
                  ⟨(some 125), .pick (.t 118) (.k (.bool true)) (.t 124), none, [], false⟩])
                (.cond (.t 125) (.seq (.reg [
                    ⟨(some 10), .mv (.k (.bool false)), none, [], false⟩])
                  (.ret))
                 (.skip)))
               (.seq (.reg [
                  ⟨(some 126), .mv (.t 18), none, [], false⟩,
                  ⟨(some 127), .mv (.t 25), none, [], false⟩,
                  ⟨(some 128), .bin .eql (.t 126) (.t 127), none, [], false⟩,
                  ⟨(some 129), .mv (.t 128), none, [], false⟩,
                  ⟨(some 130), .mv (.t 18), (some (129, false)), [], false⟩,
                  ⟨(some 131), .bin .eql (.t 130) (.k (.int .i64 4)), (some (129, false)), [], false⟩,
                  ⟨(some 132), .pick (.t 129) (.k (.bool true)) (.t 131), none, [], false⟩,
                  ⟨(some 133), .mv (.t 132), none, [], false⟩,
                  ⟨(some 134), .mv (.t 25), (some (133, false)), [], false⟩,
                  ⟨(some 135), .bin .eql (.t 134) (.k (.int .i64 4)), (some (133, false)), [], false⟩,
                  ⟨(some 136), .pick (.t 133) (.k (.bool true)) (.t 135), none, [], false⟩,
                  ⟨(some 137), .mv (.t 136), none, [], false⟩,
                  ⟨(some 138), .mv (.t 18), (some (137, false)), [], false⟩,
                  ⟨(some 139), .bin .eql (.t 138) (.k (.int .i64 1)), (some (137, false)), [], false⟩,
                  ⟨(some 140), .pick (.t 137) (.k (.bool true)) (.t 139), none, [], false⟩,
                  ⟨(some 141), .mv (.t 140), none, [], false⟩,
                  ⟨(some 142), .mv (.t 25), (some (141, false)), [], false⟩,
                  ⟨(some 143), .bin .eql (.t 142) (.k (.int .i64 1)), (some (141, false)), [], false⟩,
                  ⟨(some 144), .pick (.t 141) (.k (.bool true)) (.t 143), none, [], false⟩,
                  ⟨(some 145), .mv (.t 144), none, [], false⟩,
                  ⟨(some 146), .mv (.t 18), (some (145, true)), [], false⟩,
                  ⟨(some 147), .bin .neq (.t 146) (.k (.int .i64 0)), (some (145, true)), [], false⟩,
                  ⟨(some 148), .mv (.t 147), (some (145, true)), [], false⟩,
                  ⟨(some 149), .mv (.t 17), (some (148, false)), [], false⟩,
                  ⟨(some 150), .mv (.t 24), (some (148, false)), [], false⟩,
                  ⟨(some 151), .bin .eql (.t 149) (.t 150), (some (148, false)), [], false⟩,
                  ⟨(some 152), .pick (.t 148) (.k (.bool true)) (.t 151), (some (145, true)), [], false⟩,
                  ⟨(some 153), .pick (.t 145) (.t 152) (.k (.bool false)), none, [], false⟩,
                  ⟨(some 10), .mv (.t 153), none, [], false⟩])
                (.ret)))))))))))))
/-- skyway/skywaykeep2.ground -/
def c23 : CF where
  np := 1
  nt := 7
  res := [.cn 6 2]
  code := .seq (.reg [
      ⟨(some 2), .new [.int .i64 0, .int .i64 0, .int .i64 0, .int .i64 0, .int .i64 0, .sl true 0 0 0 0 0], none, [], false⟩])
    (.seq (.reg [
       ⟨(some 3), .mk [.int .i64 0, .int .i64 0] [(0, 1, (.k (.int .i64 1000))), (1, 1, (.k (.int .i64 (-500))))], none, [], false⟩,
       ⟨(some 4), .mv (.t 0), none, [], false⟩,
       ⟨(some 5), .mks [.int .i64 0] 1 1 [(0, 1, (.t 4))], none, [], false⟩,
       ⟨(some 6), .mk [.int .i64 0, .int .i64 0, .int .i64 0, .int .i64 0, .int .i64 0, .sl true 0 0 0 0 0] [(0, 2, (.t 3)), (2, 1, (.k (.int .i64 1000))), (3, 1, (.k (.int .i64 1))), (4, 1, (.k (.int .i64 1))), (5, 1, (.t 5))], none, [], false⟩,
       ⟨none, .st 6 (.t 2) (.t 6), none, [], false⟩])
     (.ret))
/-- skyway/terrain.Check -/
def c39 : CF where
  np := 1
  nt := 80
  res := [.t 2]
  code := .seq (.reg [
      ⟨(some 1), .box (.t 0), none, [], false⟩,
      ⟨(some 2), .mv (.k (.int .i64 0)), none, [], false⟩])
    (.seq (.blk 0 (.seq (.seq (.reg [
          ⟨(some 6), .fad 3 (.t 1), none, [], false⟩,
          ⟨(some 7), .ld1 (.t 6), none, [], false⟩,
          ⟨(some 8), .bin .lss (.t 7) (.k (.int .i64 1)), none, [], false⟩,
          ⟨(some 9), .mv (.t 8), none, [], false⟩,
          ⟨(some 10), .fad 3 (.t 1), (some (9, false)), [], false⟩,
          ⟨(some 11), .ld1 (.t 10), (some (9, false)), [], false⟩,
          ⟨(some 12), .bin .gtr (.t 11) (.k (.int .i64 32)), (some (9, false)), [], false⟩,
          ⟨(some 13), .pick (.t 9) (.k (.bool true)) (.t 12), none, [], false⟩,
          ⟨(some 14), .mv (.t 13), none, [], false⟩,
          ⟨(some 15), .fad 4 (.t 1), (some (14, false)), [], false⟩,
          ⟨(some 16), .ld1 (.t 15), (some (14, false)), [], false⟩,
          ⟨(some 17), .bin .lss (.t 16) (.k (.int .i64 1)), (some (14, false)), [], false⟩,
          ⟨(some 18), .pick (.t 14) (.k (.bool true)) (.t 17), none, [], false⟩,
          ⟨(some 19), .mv (.t 18), none, [], false⟩,
          ⟨(some 20), .fad 4 (.t 1), (some (19, false)), [], false⟩,
          ⟨(some 21), .ld1 (.t 20), (some (19, false)), [], false⟩,
          ⟨(some 22), .bin .gtr (.t 21) (.k (.int .i64 32)), (some (19, false)), [], false⟩,
          ⟨(some 23), .pick (.t 19) (.k (.bool true)) (.t 22), none, [], false⟩,
          ⟨(some 24), .mv (.t 23), none, [], false⟩,
          ⟨(some 25), .fad 2 (.t 1), (some (24, false)), [], false⟩,
          ⟨(some 26), .ld1 (.t 25), (some (24, false)), [], false⟩,
          ⟨(some 27), .bin .lss (.t 26) (.k (.int .i64 1)), (some (24, false)), [], false⟩,
          ⟨(some 28), .pick (.t 24) (.k (.bool true)) (.t 27), none, [], false⟩,
          ⟨(some 29), .mv (.t 28), none, [], false⟩,
          ⟨(some 30), .fad 2 (.t 1), (some (29, false)), [], false⟩,
          ⟨(some 31), .ld1 (.t 30), (some (29, false)), [], false⟩,
          ⟨(some 32), .bin .gtr (.t 31) (.k (.int .i64 1000000)), (some (29, false)), [], false⟩,
          ⟨(some 33), .pick (.t 29) (.k (.bool true)) (.t 32), none, [], false⟩,
          ⟨(some 5), .mv (.t 33), none, [], false⟩])
        (.cond (.t 5) (.skip)
         (.reg [
           ⟨(some 34), .fad 0 (.t 1), none, [], false⟩,
           ⟨(some 35), .fad 0 (.t 34), none, [], false⟩,
           ⟨(some 36), .ld1 (.t 35), none, [], false⟩,
           ⟨(some 37), .bin .lss (.t 36) (.k (.int .i64 (-1000000))), none, [], false⟩,
           ⟨(some 38), .mv (.t 37), none, [], false⟩,
           ⟨(some 39), .fad 0 (.t 1), (some (38, false)), [], false⟩,
           ⟨(some 40), .fad 0 (.t 39), (some (38, false)), [], false⟩,
           ⟨(some 41), .ld1 (.t 40), (some (38, false)), [], false⟩,
           ⟨(some 42), .bin .gtr (.t 41) (.k (.int .i64 1000000)), (some (38, false)), [], false⟩,
           ⟨(some 43), .pick (.t 38) (.k (.bool true)) (.t 42), none, [], false⟩,
           ⟨(some 44), .mv (.t 43), none, [], false⟩,
           ⟨(some 45), .fad 0 (.t 1), (some (44, false)), [], false⟩,
           ⟨(some 46), .fad 1 (.t 45), (some (44, false)), [], false⟩,
           ⟨(some 47), .ld1 (.t 46), (some (44, false)), [], false⟩,
           ⟨(some 48), .bin .lss (.t 47) (.k (.int .i64 (-1000000))), (some (44, false)), [], false⟩,
           ⟨(some 49), .pick (.t 44) (.k (.bool true)) (.t 48), none, [], false⟩,
           ⟨(some 50), .mv (.t 49), none, [], false⟩,
           ⟨(some 51), .fad 0 (.t 1), (some (50, false)), [], false⟩,
           ⟨(some 52), .fad 1 (.t 51), (some (50, false)), [], false⟩,
           ⟨(some 53), .ld1 (.t 52), (some (50, false)), [], false⟩,
           ⟨(some 54), .bin .gtr (.t 53) (.k (.int .i64 1000000)), (some (50, false)), [], false⟩,
           ⟨(some 55), .pick (.t 50) (.k (.bool true)) (.t 54), none, [], false⟩,
           ⟨(some 5), .mv (.t 55), none, [], false⟩])))
       (.cond (.t 5) (.seq (.reg [
           ⟨(some 2), .mv (.k (.int .i64 4)), none, [], false⟩])
         (.ret))
        (.seq (.reg [
           ⟨(some 57), .fad 5 (.t 1), none, [], false⟩,
           ⟨(some 58), .ld1 (.t 57), none, [], false⟩,
           ⟨(some 59), .lenv false (.t 58), none, [], false⟩,
           ⟨(some 60), .fad 3 (.t 1), none, [], false⟩,
           ⟨(some 61), .ld1 (.t 60), none, [], false⟩,
           ⟨(some 62), .fad 4 (.t 1), none, [], false⟩,
           ⟨(some 63), .ld1 (.t 62), none, [], false⟩,
           ⟨(some 64), .bin .mul (.t 61) (.t 63), none, [], false⟩,
           ⟨(some 65), .bin .neq (.t 59) (.t 64), none, [], false⟩,
           ⟨(some 56), .mv (.t 65), none, [], false⟩])
         (.cond (.t 56) (.seq (.reg [
             ⟨(some 2), .mv (.k (.int .i64 3)), none, [], false⟩])
           (.ret))
          (.skip))))))
     (.seq (.seq (.reg [
         ⟨(some 66), .fad 5 (.t 1), none, [], false⟩,
         ⟨(some 67), .ld1 (.t 66), none, [], false⟩,
         ⟨(some 68), .lenv false (.t 67), none, [], false⟩,
         ⟨(some 69), .mv (.k (.int .i64 0)), none, [], false⟩])
       (.blk 1 (.loop (.seq (.reg [
            ⟨(some 70), .bin .lss (.t 69) (.t 68), none, [], false⟩])
          (.seq (.cond (.t 70) (.skip)
            (.exit 1))
           (.seq (.blk 2 (.seq (.reg [
                ⟨(some 71), .iad 1 (.t 67) (.t 69), none, [], false⟩,
                ⟨(some 72), .ld1 (.t 71), none, [], false⟩,
                ⟨(some 4), .mv (.t 72), none, [], false⟩])
              (.seq (.reg [
                 ⟨(some 73), .mv (.t 4), none, [], false⟩,
                 ⟨(some 74), .bin .lss (.t 73) (.k (.int .i64 0)), none, [], false⟩,
                 ⟨(some 75), .mv (.t 74), none, [], false⟩,
                 ⟨(some 76), .mv (.t 4), (some (75, false)), [], false⟩,
                 ⟨(some 77), .bin .gtr (.t 76) (.k (.int .i64 60000)), (some (75, false)), [], false⟩,
                 ⟨(some 78), .pick (.t 75) (.k (.bool true)) (.t 77), none, [], false⟩])
               (.cond (.t 78) (.seq (.reg [
                   ⟨(some 2), .mv (.k (.int .i64 4)), none, [], false⟩])
                 (.ret))
                (.skip)))))
            (.reg [
              ⟨(some 79), .bin .add (.t 69) (.k (.int .i64 1)), none, [], false⟩,
              ⟨(some 69), .mv (.t 79), none, [], false⟩])))))))
      (.seq (.reg [
         ⟨(some 2), .mv (.k (.int .i64 0)), none, [], false⟩])
       (.ret))))
/-- skyway/terrain.outside -/
def c129 : CF where
  np := 3
  nt := 14
  res := [.t 6]
  code := .seq (.reg [
      ⟨(some 6), .mv (.k (.int .i64 0)), none, [], false⟩])
    (.seq (.reg [
       ⟨(some 7), .mv (.t 1), none, [], false⟩,
       ⟨(some 8), .mv (.t 0), none, [], false⟩,
       ⟨(some 9), .bin .sub (.t 7) (.t 8), none, [], false⟩,
       ⟨(some 10), .mv (.t 0), none, [], false⟩,
       ⟨(some 11), .mv (.t 2), none, [], false⟩,
       ⟨(some 12), .bin .sub (.t 10) (.t 11), none, [], false⟩,
       ⟨(some 13), .mnx true (.t 9) [(.t 12), (.k (.int .i64 0))], none, [], false⟩,
       ⟨(some 6), .mv (.t 13), none, [], false⟩])
     (.ret))
/-- skyway/terrain.touches -/
def c121 : CF where
  np := 5
  nt := 70
  res := [.t 10]
  code := .seq (.reg [
      ⟨(some 5), .box (.t 0), none, [], false⟩,
      ⟨(some 8), .box (.t 3), none, [], false⟩,
      ⟨(some 10), .mv (.k (.bool false)), none, [], false⟩])
    (.seq (.reg [
       ⟨(some 15), .fad 0 (.t 5), none, [], false⟩,
       ⟨(some 16), .fad 0 (.t 15), none, [], false⟩,
       ⟨(some 17), .ld1 (.t 16), none, [], false⟩,
       ⟨(some 18), .mv (.t 1), none, [], false⟩,
       ⟨(some 19), .fad 2 (.t 5), none, [], false⟩,
       ⟨(some 20), .ld1 (.t 19), none, [], false⟩,
       ⟨(some 21), .bin .mul (.t 18) (.t 20), none, [], false⟩,
       ⟨(some 22), .bin .add (.t 17) (.t 21), none, [], false⟩,
       ⟨(some 23), .fad 0 (.t 5), none, [], false⟩,
       ⟨(some 24), .fad 1 (.t 23), none, [], false⟩,
       ⟨(some 25), .ld1 (.t 24), none, [], false⟩,
       ⟨(some 26), .mv (.t 2), none, [], false⟩,
       ⟨(some 27), .fad 2 (.t 5), none, [], false⟩,
       ⟨(some 28), .ld1 (.t 27), none, [], false⟩,
       ⟨(some 29), .bin .mul (.t 26) (.t 28), none, [], false⟩,
       ⟨(some 30), .bin .add (.t 25) (.t 29), none, [], false⟩,
       ⟨(some 11), .mv (.t 22), none, [], false⟩,
       ⟨(some 12), .mv (.t 30), none, [], false⟩])
     (.seq (.reg [
        ⟨(some 31), .fad 0 (.t 8), none, [], false⟩,
        ⟨(some 32), .ld1 (.t 31), none, [], false⟩,
        ⟨(some 33), .mv (.t 11), none, [], false⟩,
        ⟨(some 34), .mv (.t 11), none, [], false⟩,
        ⟨(some 35), .fad 2 (.t 5), none, [], false⟩,
        ⟨(some 36), .ld1 (.t 35), none, [], false⟩,
        ⟨(some 37), .bin .add (.t 34) (.t 36), none, [], false⟩,
        ⟨(some 38), .bin .sub (.t 37) (.k (.int .i64 1)), none, [], false⟩,
        ⟨(some 40), .fad 1 (.t 8), none, [], false⟩,
        ⟨(some 41), .ld1 (.t 40), none, [], false⟩,
        ⟨(some 42), .mv (.t 12), none, [], false⟩,
        ⟨(some 43), .mv (.t 12), none, [], false⟩,
        ⟨(some 44), .fad 2 (.t 5), none, [], false⟩,
        ⟨(some 45), .ld1 (.t 44), none, [], false⟩,
        ⟨(some 46), .bin .add (.t 43) (.t 45), none, [], false⟩,
        ⟨(some 47), .bin .sub (.t 46) (.k (.int .i64 1)), none, [], false⟩,
        ⟨(some 39), .call (.k (.fn 129 [])) [(.t 32), (.t 33), (.t 38)], none, [], true⟩,
        ⟨(some 48), .call (.k (.fn 129 [])) [(.t 41), (.t 42), (.t 47)], none, [], false⟩,
        ⟨(some 13), .mv (.t 39), none, [], false⟩,
        ⟨(some 14), .mv (.t 48), none, [], false⟩])
      (.seq (.reg [
         ⟨(some 49), .mv (.t 13), none, [], false⟩,
         ⟨(some 50), .mv (.t 4), none, [], false⟩,
         ⟨(some 51), .bin .leq (.t 49) (.t 50), none, [], false⟩,
         ⟨(some 52), .mv (.t 51), none, [], false⟩,
         ⟨(some 53), .mv (.t 14), (some (52, true)), [], false⟩,
         ⟨(some 54), .mv (.t 4), (some (52, true)), [], false⟩,
         ⟨(some 55), .bin .leq (.t 53) (.t 54), (some (52, true)), [], false⟩,
         ⟨(some 56), .pick (.t 52) (.t 55) (.k (.bool false)), none, [], false⟩,
         ⟨(some 57), .mv (.t 56), none, [], false⟩,
         ⟨(some 58), .mv (.t 13), (some (57, true)), [], false⟩,
         ⟨(some 59), .mv (.t 13), (some (57, true)), [], false⟩,
         ⟨(some 60), .bin .mul (.t 58) (.t 59), (some (57, true)), [], false⟩,
         ⟨(some 61), .mv (.t 14), (some (57, true)), [], false⟩,
         ⟨(some 62), .mv (.t 14), (some (57, true)), [], false⟩,
         ⟨(some 63), .bin .mul (.t 61) (.t 62), (some (57, true)), [], false⟩,
         ⟨(some 64), .bin .add (.t 60) (.t 63), (some (57, true)), [], false⟩,
         ⟨(some 65), .mv (.t 4), (some (57, true)), [], false⟩,
         ⟨(some 66), .mv (.t 4), (some (57, true)), [], false⟩,
         ⟨(some 67), .bin .mul (.t 65) (.t 66), (some (57, true)), [], false⟩,
         ⟨(some 68), .bin .leq (.t 64) (.t 67), (some (57, true)), [], false⟩,
         ⟨(some 69), .pick (.t 57) (.t 68) (.k (.bool false)), none, [], false⟩,
         ⟨(some 10), .mv (.t 69), none, [], false⟩])
       (.ret))))
/-- skyway/terrain.Highest -/
def c103 : CF where
  np := 3
  nt := 71
  res := [.t 6, .t 7]
  code := .seq (.reg [
      ⟨(some 3), .box (.t 0), none, [], false⟩,
      ⟨(some 4), .box (.t 1), none, [], false⟩,
      ⟨(some 6), .mv (.k (.int .i64 0)), none, [], false⟩,
      ⟨(some 7), .mv (.k (.int .i64 0)), none, [], false⟩])
    (.seq (.seq (.reg [
        ⟨(some 12), .ldn 6 (.t 3), none, [], false⟩,
        ⟨(some 13), .call (.k (.fn 39 [])) [(.t 12)], none, [], false⟩,
        ⟨(some 8), .mv (.t 13), none, [], false⟩])
      (.seq (.reg [
         ⟨(some 14), .mv (.t 8), none, [], false⟩,
         ⟨(some 15), .bin .neq (.t 14) (.k (.int .i64 0)), none, [], false⟩])
       (.cond (.t 15) (.seq (.reg [
           ⟨(some 16), .mv (.t 8), none, [], false⟩,
           ⟨(some 6), .mv (.k (.int .i64 0)), none, [], false⟩,
           ⟨(some 7), .mv (.t 16), none, [], false⟩])
         (.ret))
        (.skip))))
     (.seq (.seq (.reg [
         ⟨(some 17), .fad 0 (.t 4), none, [], false⟩,
         ⟨(some 18), .ld1 (.t 17), none, [], false⟩,
         ⟨(some 19), .bin .lss (.t 18) (.k (.int .i64 (-1000000))), none, [], false⟩,
         ⟨(some 20), .mv (.t 19), none, [], false⟩,
         ⟨(some 21), .fad 0 (.t 4), (some (20, false)), [], false⟩,
         ⟨(some 22), .ld1 (.t 21), (some (20, false)), [], false⟩,
         ⟨(some 23), .bin .gtr (.t 22) (.k (.int .i64 1000000)), (some (20, false)), [], false⟩,
         ⟨(some 24), .pick (.t 20) (.k (.bool true)) (.t 23), none, [], false⟩,
         ⟨(some 25), .mv (.t 24), none, [], false⟩,
         ⟨(some 26), .fad 1 (.t 4), (some (25, false)), [], false⟩,
         ⟨(some 27), .ld1 (.t 26), (some (25, false)), [], false⟩,
         ⟨(some 28), .bin .lss (.t 27) (.k (.int .i64 (-1000000))), (some (25, false)), [], false⟩,
         ⟨(some 29), .pick (.t 25) (.k (.bool true)) (.t 28), none, [], false⟩,
         ⟨(some 30), .mv (.t 29), none, [], false⟩,
         ⟨(some 31), .fad 1 (.t 4), (some (30, false)), [], false⟩,
         ⟨(some 32), .ld1 (.t 31), (some (30, false)), [], false⟩,
         ⟨(some 33), .bin .gtr (.t 32) (.k (.int .i64 1000000)), (some (30, false)), [], false⟩,
         ⟨(some 34), .pick (.t 30) (.k (.bool true)) (.t 33), none, [], false⟩,
         ⟨(some 35), .mv (.t 34), none, [], false⟩,
         ⟨(some 36), .mv (.t 2), (some (35, false)), [], false⟩,
         ⟨(some 37), .bin .lss (.t 36) (.k (.int .i64 0)), (some (35, false)), [], false⟩,
         ⟨(some 38), .pick (.t 35) (.k (.bool true)) (.t 37), none, [], false⟩,
         ⟨(some 39), .mv (.t 38), none, [], false⟩,
         ⟨(some 40), .mv (.t 2), (some (39, false)), [], false⟩,
         ⟨(some 41), .bin .gtr (.t 40) (.k (.int .i64 4000000)), (some (39, false)), [], false⟩,
         ⟨(some 42), .pick (.t 39) (.k (.bool true)) (.t 41), none, [], false⟩])
       (.cond (.t 42) (.seq (.reg [
           ⟨(some 6), .mv (.k (.int .i64 0)), none, [], false⟩,
           ⟨(some 7), .mv (.k (.int .i64 4)), none, [], false⟩])
         (.ret))
        (.skip)))
      (.seq (.reg [
         ⟨(some 9), .mv (.k (.int .i64 0)), none, [], false⟩])
       (.seq (.seq (.reg [
           ⟨(some 43), .fad 5 (.t 3), none, [], false⟩,
           ⟨(some 44), .ld1 (.t 43), none, [], false⟩,
           ⟨(some 45), .lenv false (.t 44), none, [], false⟩,
           ⟨(some 46), .mv (.k (.int .i64 0)), none, [], false⟩])
         (.blk 0 (.loop (.seq (.reg [
              ⟨(some 47), .bin .lss (.t 46) (.t 45), none, [], false⟩])
            (.seq (.cond (.t 47) (.skip)
              (.exit 0))
             (.seq (.blk 1 (.seq (.reg [
                  ⟨(some 48), .mv (.t 46), none, [], false⟩,
                  ⟨(some 49), .iad 1 (.t 44) (.t 46), none, [], false⟩,
                  ⟨(some 50), .ld1 (.t 49), none, [], false⟩,
                  ⟨(some 10), .mv (.t 48), none, [], false⟩,
                  ⟨(some 11), .mv (.t 50), none, [], false⟩])
                (.seq (.reg [
                   ⟨(some 51), .mv (.t 11), none, [], false⟩,
                   ⟨(some 52), .mv (.t 9), none, [], false⟩,
                   ⟨(some 53), .bin .gtr (.t 51) (.t 52), none, [], false⟩,
                   ⟨(some 54), .mv (.t 53), none, [], false⟩,
                   ⟨(some 55), .ldn 6 (.t 3), (some (54, true)), [], false⟩,
                   ⟨(some 56), .mv (.t 10), (some (54, true)), [], false⟩,
                   ⟨(some 57), .fad 3 (.t 3), (some (54, true)), [], false⟩,
                   ⟨(some 58), .ld1 (.t 57), (some (54, true)), [], false⟩,
                   ⟨(some 59), .bin .rem (.t 56) (.t 58), (some (54, true)), [], false⟩,
                   ⟨(some 60), .mv (.t 10), (some (54, true)), [], false⟩,
                   ⟨(some 61), .fad 3 (.t 3), (some (54, true)), [], false⟩,
                   ⟨(some 62), .ld1 (.t 61), (some (54, true)), [], false⟩,
                   ⟨(some 63), .bin .quo (.t 60) (.t 62), (some (54, true)), [], false⟩,
                   ⟨(some 64), .ldn 2 (.t 4), (some (54, true)), [], false⟩,
                   ⟨(some 65), .mv (.t 2), (some (54, true)), [], false⟩,
                   ⟨(some 66), .call (.k (.fn 121 [])) [(.t 55), (.t 59), (.t 63), (.t 64), (.t 65)], (some (54, true)), [], false⟩,
                   ⟨(some 67), .pick (.t 54) (.t 66) (.k (.bool false)), none, [], false⟩])
                 (.cond (.t 67) (.reg [
                    ⟨(some 68), .mv (.t 11), none, [], false⟩,
                    ⟨(some 9), .mv (.t 68), none, [], false⟩])
                  (.skip)))))
              (.reg [
                ⟨(some 69), .bin .add (.t 46) (.k (.int .i64 1)), none, [], false⟩,
                ⟨(some 46), .mv (.t 69), none, [], false⟩])))))))
        (.seq (.reg [
           ⟨(some 70), .mv (.t 9), none, [], false⟩,
           ⟨(some 6), .mv (.t 70), none, [], false⟩,
           ⟨(some 7), .mv (.k (.int .i64 0)), none, [], false⟩])
         (.ret))))))
/-- skyway/terrain.Safe -/
def c66 : CF where
  np := 4
  nt := 31
  res := [.t 8, .t 9]
  code := .seq (.reg [
      ⟨(some 4), .box (.t 0), none, [], false⟩,
      ⟨(some 5), .box (.t 1), none, [], false⟩,
      ⟨(some 8), .mv (.k (.int .i64 0)), none, [], false⟩,
      ⟨(some 9), .mv (.k (.int .i64 0)), none, [], false⟩])
    (.seq (.reg [
       ⟨(some 13), .ldn 6 (.t 4), none, [], false⟩,
       ⟨(some 14), .ldn 2 (.t 5), none, [], false⟩,
       ⟨(some 15), .mv (.t 2), none, [], false⟩,
       ⟨(some 16), .call (.k (.fn 103 [])) [(.t 13), (.t 14), (.t 15)], none, [], false⟩,
       ⟨(some 12), .mv (.t 16), none, [], false⟩,
       ⟨(some 17), .ext (.t 12) 0, none, [], false⟩,
       ⟨(some 18), .ext (.t 12) 1, none, [], false⟩,
       ⟨(some 10), .mv (.t 17), none, [], false⟩,
       ⟨(some 11), .mv (.t 18), none, [], false⟩])
     (.seq (.seq (.reg [
         ⟨(some 19), .mv (.t 11), none, [], false⟩,
         ⟨(some 20), .bin .neq (.t 19) (.k (.int .i64 0)), none, [], false⟩])
       (.cond (.t 20) (.seq (.reg [
           ⟨(some 21), .mv (.t 11), none, [], false⟩,
           ⟨(some 8), .mv (.k (.int .i64 0)), none, [], false⟩,
           ⟨(some 9), .mv (.t 21), none, [], false⟩])
         (.ret))
        (.skip)))
      (.seq (.seq (.reg [
          ⟨(some 22), .mv (.t 3), none, [], false⟩,
          ⟨(some 23), .bin .lss (.t 22) (.k (.int .i64 0)), none, [], false⟩,
          ⟨(some 24), .mv (.t 23), none, [], false⟩,
          ⟨(some 25), .mv (.t 3), (some (24, false)), [], false⟩,
          ⟨(some 26), .bin .gtr (.t 25) (.k (.int .i64 60000)), (some (24, false)), [], false⟩,
          ⟨(some 27), .pick (.t 24) (.k (.bool true)) (.t 26), none, [], false⟩])
        (.cond (.t 27) (.seq (.reg [
            ⟨(some 8), .mv (.k (.int .i64 0)), none, [], false⟩,
            ⟨(some 9), .mv (.k (.int .i64 4)), none, [], false⟩])
          (.ret))
         (.skip)))
       (.seq (.reg [
          ⟨(some 28), .mv (.t 10), none, [], false⟩,
          ⟨(some 29), .mv (.t 3), none, [], false⟩,
          ⟨(some 30), .bin .add (.t 28) (.t 29), none, [], false⟩,
          ⟨(some 8), .mv (.t 30), none, [], false⟩,
          ⟨(some 9), .mv (.k (.int .i64 0)), none, [], false⟩])
        (.ret)))))
/-- skyway/terrain.Warn -/
def c22 : CF where
  np := 6
  nt := 102
  res := [.t 12, .t 13]
  code := .seq (.reg [
      ⟨(some 6), .box (.t 0), none, [], false⟩,
      ⟨(some 7), .box (.t 1), none, [], false⟩,
      ⟨(some 12), .mv (.k (.int .i64 0)), none, [], false⟩,
      ⟨(some 13), .mv (.k (.int .i64 0)), none, [], false⟩])
    (.seq (.seq (.reg [
        ⟨(some 21), .ldn 6 (.t 6), none, [], false⟩,
        ⟨(some 22), .call (.k (.fn 39 [])) [(.t 21)], none, [], false⟩,
        ⟨(some 14), .mv (.t 22), none, [], false⟩])
      (.seq (.reg [
         ⟨(some 23), .mv (.t 14), none, [], false⟩,
         ⟨(some 24), .bin .neq (.t 23) (.k (.int .i64 0)), none, [], false⟩])
       (.cond (.t 24) (.seq (.reg [
           ⟨(some 25), .mv (.t 14), none, [], false⟩,
           ⟨(some 12), .mv (.k (.int .i64 0)), none, [], false⟩,
           ⟨(some 13), .mv (.t 25), none, [], false⟩])
         (.ret))
        (.skip))))
     (.seq (.seq (.reg [
         ⟨(some 26), .ldn 20 (.t 7), none, [], false⟩,
         ⟨(some 27), .call (.k (.fn 64 [])) [(.t 26)], none, [], false⟩,
         ⟨(some 15), .mv (.t 27), none, [], false⟩])
       (.seq (.reg [
          ⟨(some 28), .mv (.t 15), none, [], false⟩,
          ⟨(some 29), .bin .neq (.t 28) (.k (.int .i64 0)), none, [], false⟩])
        (.cond (.t 29) (.seq (.reg [
            ⟨(some 30), .mv (.t 15), none, [], false⟩,
            ⟨(some 12), .mv (.k (.int .i64 0)), none, [], false⟩,
            ⟨(some 13), .mv (.t 30), none, [], false⟩])
          (.ret))
         (.skip))))
      (.seq (.seq (.reg [
          ⟨(some 31), .mv (.t 2), none, [], false⟩,
          ⟨(some 32), .bin .lss (.t 31) (.k (.int .i64 0)), none, [], false⟩,
          ⟨(some 33), .mv (.t 32), none, [], false⟩,
          ⟨(some 34), .mv (.t 2), (some (33, false)), [], false⟩,
          ⟨(some 35), .bin .gtr (.t 34) (.k (.int .i64 300)), (some (33, false)), [], false⟩,
          ⟨(some 36), .pick (.t 33) (.k (.bool true)) (.t 35), none, [], false⟩,
          ⟨(some 37), .mv (.t 36), none, [], false⟩,
          ⟨(some 38), .mv (.t 3), (some (37, false)), [], false⟩,
          ⟨(some 39), .bin .lss (.t 38) (.k (.int .i64 0)), (some (37, false)), [], false⟩,
          ⟨(some 40), .pick (.t 37) (.k (.bool true)) (.t 39), none, [], false⟩,
          ⟨(some 41), .mv (.t 40), none, [], false⟩,
          ⟨(some 42), .mv (.t 3), (some (41, false)), [], false⟩,
          ⟨(some 43), .bin .gtr (.t 42) (.k (.int .i64 20)), (some (41, false)), [], false⟩,
          ⟨(some 44), .pick (.t 41) (.k (.bool true)) (.t 43), none, [], false⟩,
          ⟨(some 45), .mv (.t 44), none, [], false⟩,
          ⟨(some 46), .mv (.t 4), (some (45, false)), [], false⟩,
          ⟨(some 47), .bin .lss (.t 46) (.k (.int .i64 0)), (some (45, false)), [], false⟩,
          ⟨(some 48), .pick (.t 45) (.k (.bool true)) (.t 47), none, [], false⟩,
          ⟨(some 49), .mv (.t 48), none, [], false⟩,
          ⟨(some 50), .mv (.t 4), (some (49, false)), [], false⟩,
          ⟨(some 51), .bin .gtr (.t 50) (.k (.int .i64 200)), (some (49, false)), [], false⟩,
          ⟨(some 52), .pick (.t 49) (.k (.bool true)) (.t 51), none, [], false⟩,
          ⟨(some 53), .mv (.t 52), none, [], false⟩,
          ⟨(some 54), .mv (.t 5), (some (53, false)), [], false⟩,
          ⟨(some 55), .bin .lss (.t 54) (.k (.int .i64 0)), (some (53, false)), [], false⟩,
          ⟨(some 56), .pick (.t 53) (.k (.bool true)) (.t 55), none, [], false⟩,
          ⟨(some 57), .mv (.t 56), none, [], false⟩,
          ⟨(some 58), .mv (.t 5), (some (57, false)), [], false⟩,
          ⟨(some 59), .bin .gtr (.t 58) (.k (.int .i64 60000)), (some (57, false)), [], false⟩,
          ⟨(some 60), .pick (.t 57) (.k (.bool true)) (.t 59), none, [], false⟩])
        (.cond (.t 60) (.seq (.reg [
            ⟨(some 12), .mv (.k (.int .i64 0)), none, [], false⟩,
            ⟨(some 13), .mv (.k (.int .i64 4)), none, [], false⟩])
          (.ret))
         (.skip)))
       (.seq (.seq (.reg [
           ⟨(some 16), .mv (.k (.int .i64 0)), none, [], false⟩])
         (.blk 0 (.loop (.seq (.seq (.reg [
               ⟨(some 61), .mv (.t 16), none, [], false⟩,
               ⟨(some 62), .mv (.t 2), none, [], false⟩,
               ⟨(some 63), .bin .leq (.t 61) (.t 62), none, [], false⟩])
             (.cond (.t 63) (.skip)
              (.exit 0)))
            (.seq (.blk 1 (.seq (.reg [
                 ⟨(some 67), .ldn 20 (.t 7), none, [], false⟩,
                 ⟨(some 68), .fad 0 (.t 7), none, [], false⟩,
                 ⟨(some 69), .fad 2 (.t 68), none, [], false⟩,
                 ⟨(some 70), .ld1 (.t 69), none, [], false⟩,
                 ⟨(some 71), .mv (.t 16), none, [], false⟩,
                 ⟨(some 72), .bin .add (.t 70) (.t 71), none, [], false⟩,
                 ⟨(some 73), .mv (.t 3), none, [], false⟩,
                 ⟨(some 74), .call (.k (.fn 65 [])) [(.t 67), (.t 72), (.t 73)], none, [], false⟩,
                 ⟨(some 66), .mv (.t 74), none, [], false⟩,
                 ⟨(some 75), .ext (.t 66) 0, none, [], false⟩,
                 ⟨(some 76), .ext (.t 66) 1, none, [], false⟩,
                 ⟨(some 17), .new [.int .i64 0, .int .i64 0, .int .i64 0, .int .i64 0, .int .i64 0, .int .i64 0, .int .i64 0, .int .i64 0, .int .i64 0, .int .i64 0, .int .i64 0, .int .i64 0, .int .i64 0, .int .i64 0, .int .i64 0, .int .i64 0, .int .i64 0, .int .i64 0, .int .i64 0, .int .i64 0], none, [], false⟩,
                 ⟨none, .st 20 (.t 17) (.t 75), none, [], false⟩,
                 ⟨(some 18), .mv (.t 76), none, [], false⟩])
               (.seq (.seq (.reg [
                   ⟨(some 77), .mv (.t 18), none, [], false⟩,
                   ⟨(some 78), .bin .neq (.t 77) (.k (.int .i64 0)), none, [], false⟩])
                 (.cond (.t 78) (.seq (.reg [
                     ⟨(some 12), .mv (.k (.int .i64 0)), none, [], false⟩,
                     ⟨(some 13), .mv (.k (.int .i64 12)), none, [], false⟩])
                   (.ret))
                  (.skip)))
                (.seq (.reg [
                   ⟨(some 80), .ldn 6 (.t 6), none, [], false⟩,
                   ⟨(some 81), .fad 0 (.t 17), none, [], false⟩,
                   ⟨(some 82), .fad 3 (.t 81), none, [], false⟩,
                   ⟨(some 83), .ldn 2 (.t 82), none, [], false⟩,
                   ⟨(some 84), .fad 0 (.t 17), none, [], false⟩,
                   ⟨(some 85), .fad 9 (.t 84), none, [], false⟩,
                   ⟨(some 86), .ld1 (.t 85), none, [], false⟩,
                   ⟨(some 87), .mv (.t 5), none, [], false⟩,
                   ⟨(some 88), .call (.k (.fn 66 [])) [(.t 80), (.t 83), (.t 86), (.t 87)], none, [], false⟩,
                   ⟨(some 79), .mv (.t 88), none, [], false⟩,
                   ⟨(some 89), .ext (.t 79) 0, none, [], false⟩,
                   ⟨(some 90), .ext (.t 79) 1, none, [], false⟩,
                   ⟨(some 19), .mv (.t 89), none, [], false⟩,
                   ⟨(some 20), .mv (.t 90), none, [], false⟩])
                 (.seq (.reg [
                    ⟨(some 91), .fad 0 (.t 17), none, [], false⟩,
                    ⟨(some 92), .fad 7 (.t 91), none, [], false⟩,
                    ⟨(some 93), .ld1 (.t 92), none, [], false⟩,
                    ⟨(some 94), .bin .sub (.t 93) (.k (.int .i64 100)), none, [], false⟩,
                    ⟨(some 95), .mv (.t 4), none, [], false⟩,
                    ⟨(some 96), .mv (.t 16), none, [], false⟩,
                    ⟨(some 97), .bin .mul (.t 95) (.t 96), none, [], false⟩,
                    ⟨(some 98), .bin .sub (.t 94) (.t 97), none, [], false⟩,
                    ⟨(some 99), .mv (.t 19), none, [], false⟩,
                    ⟨(some 100), .bin .lss (.t 98) (.t 99), none, [], false⟩])
                  (.cond (.t 100) (.seq (.reg [
                      ⟨(some 101), .mv (.t 16), none, [], false⟩,
                      ⟨(some 12), .mv (.t 101), none, [], false⟩,
                      ⟨(some 13), .mv (.k (.int .i64 0)), none, [], false⟩])
                    (.ret))
                   (.skip)))))))
             (.reg [
               ⟨(some 64), .mv (.t 16), none, [], false⟩,
               ⟨(some 65), .bin .add (.t 64) (.k (.int .i64 1)), none, [], false⟩,
               ⟨(some 16), .mv (.t 65), none, [], false⟩]))))))
        (.seq (.reg [
           ⟨(some 12), .mv (.k (.int .i64 0)), none, [], false⟩,
           ⟨(some 13), .mv (.k (.int .i64 8)), none, [], false⟩])
         (.ret))))))
/-- skyway/skywaykeep2.TerrainSooner -/
def c5 : CF where
  np := 5
  nt := 76
  res := [.t 10]
  code := .seq (.reg [
      ⟨(some 5), .box (.t 0), none, [], false⟩,
      ⟨(some 6), .box (.t 1), none, [], false⟩,
      ⟨(some 10), .mv (.k (.bool false)), none, [], false⟩])
    (.seq (.reg [
       ⟨(some 20), .mk [.int .i64 0, .int .i64 0, .int .i64 0, .int .i64 0, .int .i64 0, .int .i64 0, .int .i64 0, .int .i64 0, .int .i64 0, .int .i64 0, .int .i64 0, .int .i64 0, .int .i64 0] [(7, 1, (.k (.int .i64 3000)))], none, [], false⟩,
       ⟨(some 21), .mk [.int .i64 0, .int .i64 0, .int .i64 0, .int .i64 0, .int .i64 0, .int .i64 0, .int .i64 0, .int .i64 0, .int .i64 0, .int .i64 0, .int .i64 0, .int .i64 0, .int .i64 0, .int .i64 0, .int .i64 0, .int .i64 0, .int .i64 0, .int .i64 0, .int .i64 0, .int .i64 0] [(0, 13, (.t 20))], none, [], false⟩,
       ⟨(some 11), .new [.int .i64 0, .int .i64 0, .int .i64 0, .int .i64 0, .int .i64 0, .int .i64 0, .int .i64 0, .int .i64 0, .int .i64 0, .int .i64 0, .int .i64 0, .int .i64 0, .int .i64 0, .int .i64 0, .int .i64 0, .int .i64 0, .int .i64 0, .int .i64 0, .int .i64 0, .int .i64 0], none, [], false⟩,
       ⟨none, .st 20 (.t 11) (.t 21), none, [], false⟩])
     (.seq (.seq (.reg [
         ⟨(some 24), .ldn 20 (.t 11), none, [], false⟩,
         ⟨(some 23), .call (.k (.fn 23 [])) [(.k (.int .i64 0))], none, [], true⟩,
         ⟨(some 25), .call (.k (.fn 22 [])) [(.t 23), (.t 24), (.k (.int .i64 5)), (.k (.int .i64 0)), (.k (.int .i64 0)), (.k (.int .i64 5000))], none, [], false⟩,
         ⟨(some 22), .mv (.t 25), none, [], false⟩,
         ⟨(some 26), .ext (.t 22) 0, none, [], false⟩,
         ⟨(some 27), .ext (.t 22) 1, none, [], false⟩,
         ⟨(some 12), .mv (.t 26), none, [], false⟩,
         ⟨(some 13), .mv (.t 27), none, [], false⟩])
       (.seq (.reg [
          ⟨(some 28), .mv (.t 13), none, [], false⟩,
          ⟨(some 29), .bin .neq (.t 28) (.k (.int .i64 0)), none, [], false⟩,
          ⟨(some 30), .mv (.t 29), none, [], false⟩,
          ⟨(some 31), .mv (.t 12), (some (30, false)), [], false⟩,
          ⟨(some 32), .bin .neq (.t 31) (.k (.int .i64 0)), (some (30, false)), [], false⟩,
          ⟨(some 33), .pick (.t 30) (.k (.bool true)) (.t 32), none, [], false⟩])
        (.cond (.t 33) (.seq (.reg [
            ⟨(some 10), .mv (.k (.bool false)), none, [], false⟩])
          (.ret))
         (.skip))))
      (.seq (.seq (.reg [
          ⟨(some 36), .ldn 20 (.t 11), none, [], false⟩,
          ⟨(some 35), .call (.k (.fn 23 [])) [(.k (.int .i64 0))], none, [], true⟩,
          ⟨(some 37), .call (.k (.fn 22 [])) [(.t 35), (.t 36), (.k (.int .i64 5)), (.k (.int .i64 0)), (.k (.int .i64 0)), (.k (.int .i64 100))], none, [], false⟩,
          ⟨(some 34), .mv (.t 37), none, [], false⟩,
          ⟨(some 38), .ext (.t 34) 0, none, [], false⟩,
          ⟨(some 39), .ext (.t 34) 1, none, [], false⟩,
          ⟨(some 14), .mv (.t 38), none, [], false⟩,
          ⟨(some 15), .mv (.t 39), none, [], false⟩])
        (.seq (.reg [
           ⟨(some 40), .mv (.t 15), none, [], false⟩,
           ⟨(some 41), .bin .neq (.t 40) (.k (.int .i64 8)), none, [], false⟩])
         (.cond (.t 41) (.seq (.reg [
             ⟨(some 10), .mv (.k (.bool false)), none, [], false⟩])
           (.ret))
          (.skip))))
       (.seq (.reg [
          ⟨(some 42), .mv (.t 2), none, [], false⟩,
          ⟨(some 43), .call (.k (.fn 20 [])) [(.t 42), (.k (.int .i64 0)), (.k (.int .i64 40))], none, [], false⟩,
          ⟨(some 44), .mv (.t 3), none, [], false⟩,
          ⟨(some 45), .call (.k (.fn 20 [])) [(.t 44), (.k (.int .i64 0)), (.k (.int .i64 5000))], none, [], false⟩,
          ⟨(some 2), .mv (.t 43), none, [], false⟩,
          ⟨(some 3), .mv (.t 45), none, [], false⟩])
        (.seq (.reg [
           ⟨(some 47), .ldn 6 (.t 5), none, [], false⟩,
           ⟨(some 48), .ldn 20 (.t 6), none, [], false⟩,
           ⟨(some 49), .mv (.t 2), none, [], false⟩,
           ⟨(some 50), .mv (.t 3), none, [], false⟩,
           ⟨(some 51), .call (.k (.fn 22 [])) [(.t 47), (.t 48), (.t 49), (.k (.int .i64 1)), (.k (.int .i64 10)), (.t 50)], none, [], false⟩,
           ⟨(some 46), .mv (.t 51), none, [], false⟩,
           ⟨(some 52), .ext (.t 46) 0, none, [], false⟩,
           ⟨(some 53), .ext (.t 46) 1, none, [], false⟩,
           ⟨(some 16), .mv (.t 52), none, [], false⟩,
           ⟨(some 17), .mv (.t 53), none, [], false⟩])
         (.seq (.reg [
            ⟨(some 55), .ldn 6 (.t 5), none, [], false⟩,
            ⟨(some 56), .ldn 20 (.t 6), none, [], false⟩,
            ⟨(some 57), .mv (.t 2), none, [], false⟩,
            ⟨(some 58), .mv (.t 3), none, [], false⟩,
            ⟨(some 59), .mv (.t 4), none, [], false⟩,
            ⟨(some 60), .call (.k (.fn 20 [])) [(.t 59), (.k (.int .i64 0)), (.k (.int .i64 5000))], none, [], true⟩,
            ⟨(some 61), .bin .add (.t 58) (.t 60), none, [], false⟩,
            ⟨(some 62), .call (.k (.fn 22 [])) [(.t 55), (.t 56), (.t 57), (.k (.int .i64 1)), (.k (.int .i64 10)), (.t 61)], none, [], false⟩,
            ⟨(some 54), .mv (.t 62), none, [], false⟩,
            ⟨(some 63), .ext (.t 54) 0, none, [], false⟩,
            ⟨(some 64), .ext (.t 54) 1, none, [], false⟩,
            ⟨(some 18), .mv (.t 63), none, [], false⟩,
            ⟨(some 19), .mv (.t 64), none, [], false⟩])
          (.seq (.seq (.reg [
              ⟨(some 65), .mv (.t 17), none, [], false⟩,
              ⟨(some 66), .bin .eql (.t 65) (.k (.int .i64 0)), none, [], false⟩])
            (.cond (.t 66) (.seq (.reg [
                ⟨(some 67), .mv (.t 19), none, [], false⟩,
                ⟨(some 68), .bin .eql (.t 67) (.k (.int .i64 0)), none, [], false⟩,
                ⟨(some 69), .mv (.t 68), none, [], false⟩,
                ⟨(some 70), .mv (.t 18), (some (69, true)), [], false⟩,
                ⟨(some 71), .mv (.t 16), (some (69, true)), [], false⟩,
                ⟨(some 72), .bin .leq (.t 70) (.t 71), (some (69, true)), [], false⟩,
                ⟨(some 73), .pick (.t 69) (.t 72) (.k (.bool false)), none, [], false⟩,
                ⟨(some 10), .mv (.t 73), none, [], false⟩])
              (.ret))
             (.skip)))
           (.seq (.reg [
              ⟨(some 74), .mv (.t 16), none, [], false⟩,
              ⟨(some 75), .bin .eql (.t 74) (.k (.int .i64 0)), none, [], false⟩,
              ⟨(some 10), .mv (.t 75), none, [], false⟩])
            (.ret)))))))))
/-- math.archLdexp -/
def c107 : CF where
  np := 2
  nt := 6
  res := [.t 4]
  code := .seq (.reg [
      ⟨(some 4), .mv (.k (.flt .f64 0)), none, [], false⟩])
    (.reg [
      ⟨(some 5), .bad, none, [], false⟩,
      ⟨none, .bad, none, [], false⟩])
/-- math.Abs -/
def c130 : CF where
  np := 1
  nt := 7
  res := [.t 2]
  code := .seq (.reg [
      ⟨(some 2), .mv (.k (.flt .f64 0)), none, [], false⟩])
    (.seq (.reg [
       ⟨(some 3), .mv (.t 0), none, [], false⟩,
       ⟨(some 4), .xf 1 (.t 3), none, [], false⟩,
       ⟨(some 5), .bin .andNot (.t 4) (.k (.int .u64 9223372036854775808)), none, [], false⟩,
       ⟨(some 6), .xf 2 (.t 5), none, [], false⟩,
       ⟨(some 2), .mv (.t 6), none, [], false⟩])
     (.ret))
/-- math.IsInf -/
def c122 : CF where
  np := 2
  nt := 15
  res := [.t 4]
  code := .seq (.reg [
      ⟨(some 4), .mv (.k (.bool false)), none, [], false⟩])
    (.seq (.seq (.reg [
        ⟨(some 5), .mv (.t 1), none, [], false⟩,
        ⟨(some 6), .bin .eql (.t 5) (.k (.int .i64 0)), none, [], false⟩])
      (.cond (.t 6) (.reg [
         ⟨(some 7), .mv (.t 0), none, [], false⟩,
         ⟨(some 8), .call (.k (.fn 130 [])) [(.t 7)], none, [], false⟩,
         ⟨(some 0), .mv (.t 8), none, [], false⟩])
       (.seq (.reg [
          ⟨(some 9), .mv (.t 1), none, [], false⟩,
          ⟨(some 10), .bin .lss (.t 9) (.k (.int .i64 0)), none, [], false⟩])
        (.cond (.t 10) (.reg [
           ⟨(some 11), .mv (.t 0), none, [], false⟩,
           ⟨(some 12), .un .neg (.t 11), none, [], false⟩,
           ⟨(some 0), .mv (.t 12), none, [], false⟩])
         (.skip)))))
     (.seq (.reg [
        ⟨(some 13), .mv (.t 0), none, [], false⟩,
        ⟨(some 14), .bin .gtr (.t 13) (.k (.flt .f64 9218868437227405311)), none, [], false⟩,
        ⟨(some 4), .mv (.t 14), none, [], false⟩])
      (.ret)))
/-- math.IsNaN -/
def c123 : CF where
  np := 1
  nt := 6
  res := [.t 2]
  code := .seq (.reg [
      ⟨(some 2), .mv (.k (.bool false)), none, [], false⟩])
    (.seq (.reg [
       ⟨(some 3), .mv (.t 0), none, [], false⟩,
       ⟨(some 4), .mv (.t 0), none, [], false⟩,
       ⟨(some 5), .bin .neq (.t 3) (.t 4), none, [], false⟩,
       ⟨(some 2), .mv (.t 5), none, [], false⟩])
     (.ret))
/-- math.normalize -/
def c124 : CF where
  np := 1
  nt := 10
  res := [.t 2, .t 3]
  code := .seq (.reg [
      ⟨(some 2), .mv (.k (.flt .f64 0)), none, [], false⟩,
      ⟨(some 3), .mv (.k (.int .i64 0)), none, [], false⟩])
    (.seq (.seq (.reg [
        ⟨(some 4), .mv (.t 0), none, [], false⟩,
        ⟨(some 5), .call (.k (.fn 130 [])) [(.t 4)], none, [], false⟩,
        ⟨(some 6), .bin .lss (.t 5) (.k (.flt .f64 4503599627370496)), none, [], false⟩])
      (.cond (.t 6) (.seq (.reg [
          ⟨(some 7), .mv (.t 0), none, [], false⟩,
          ⟨(some 8), .bin .mul (.t 7) (.k (.flt .f64 4841369599423283200)), none, [], false⟩,
          ⟨(some 2), .mv (.t 8), none, [], false⟩,
          ⟨(some 3), .mv (.k (.int .i64 (-52))), none, [], false⟩])
        (.ret))
       (.skip)))
     (.seq (.reg [
        ⟨(some 9), .mv (.t 0), none, [], false⟩,
        ⟨(some 2), .mv (.t 9), none, [], false⟩,
        ⟨(some 3), .mv (.k (.int .i64 0)), none, [], false⟩])
      (.ret)))
/-- math.Copysign -/
def c125 : CF where
  np := 2
  nt := 13
  res := [.t 4]
  code := .seq (.reg [
      ⟨(some 4), .mv (.k (.flt .f64 0)), none, [], false⟩])
    (.seq (.reg [
       ⟨(some 5), .mv (.t 0), none, [], false⟩,
       ⟨(some 6), .xf 1 (.t 5), none, [], false⟩,
       ⟨(some 7), .bin .andNot (.t 6) (.k (.int .u64 9223372036854775808)), none, [], false⟩,
       ⟨(some 8), .mv (.t 1), none, [], false⟩,
       ⟨(some 9), .xf 1 (.t 8), none, [], false⟩,
       ⟨(some 10), .bin .and (.t 9) (.k (.int .u64 9223372036854775808)), none, [], false⟩,
       ⟨(some 11), .bin .or (.t 7) (.t 10), none, [], false⟩,
       ⟨(some 12), .xf 2 (.t 11), none, [], false⟩,
       ⟨(some 4), .mv (.t 12), none, [], false⟩])
     (.ret))
/-- math.Inf -/
def c126 : CF where
  np := 1
  nt := 8
  res := [.t 2]
  code := .seq (.reg [
      ⟨(some 2), .mv (.k (.flt .f64 0)), none, [], false⟩])
    (.seq (.reg [
       ⟨(some 3), .mv (.k (.int .u64 0)), none, [], false⟩])
     (.seq (.seq (.reg [
         ⟨(some 4), .mv (.t 0), none, [], false⟩,
         ⟨(some 5), .bin .geq (.t 4) (.k (.int .i64 0)), none, [], false⟩])
       (.cond (.t 5) (.reg [
          ⟨(some 3), .mv (.k (.int .u64 9218868437227405312)), none, [], false⟩])
        (.reg [
          ⟨(some 3), .mv (.k (.int .u64 18442240474082181120)), none, [], false⟩])))
      (.seq (.reg [
         ⟨(some 6), .mv (.t 3), none, [], false⟩,
         ⟨(some 7), .xf 2 (.t 6), none, [], false⟩,
         ⟨(some 2), .mv (.t 7), none, [], false⟩])
       (.ret))))
/-- math.ldexp -/
def c108 : CF where
  np := 2
  nt := 63
  res := [.t 4]
  code := .seq (.reg [
      ⟨(some 4), .mv (.k (.flt .f64 0)), none, [], false⟩])
    (.seq (.blk 0 (.seq (.reg [
         ⟨(some 9), .mv (.t 0), none, [], false⟩,
         ⟨(some 10), .bin .eql (.t 9) (.k (.flt .f64 0)), none, [], false⟩,
         ⟨(some 8), .mv (.t 10), none, [], false⟩])
       (.cond (.t 8) (.seq (.reg [
           ⟨(some 11), .mv (.t 0), none, [], false⟩,
           ⟨(some 4), .mv (.t 11), none, [], false⟩])
         (.ret))
        (.seq (.reg [
           ⟨(some 13), .mv (.t 0), none, [], false⟩,
           ⟨(some 14), .call (.k (.fn 122 [])) [(.t 13), (.k (.int .i64 0))], none, [], false⟩,
           ⟨(some 15), .mv (.t 14), none, [], false⟩,
           ⟨(some 16), .mv (.t 0), (some (15, false)), [], false⟩,
           ⟨(some 17), .call (.k (.fn 123 [])) [(.t 16)], (some (15, false)), [], false⟩,
           ⟨(some 18), .pick (.t 15) (.k (.bool true)) (.t 17), none, [], false⟩,
           ⟨(some 12), .mv (.t 18), none, [], false⟩])
         (.cond (.t 12) (.seq (.reg [
             ⟨(some 19), .mv (.t 0), none, [], false⟩,
             ⟨(some 4), .mv (.t 19), none, [], false⟩])
           (.ret))
          (.skip))))))
     (.seq (.reg [
        ⟨(some 21), .mv (.t 0), none, [], false⟩,
        ⟨(some 22), .call (.k (.fn 124 [])) [(.t 21)], none, [], false⟩,
        ⟨(some 20), .mv (.t 22), none, [], false⟩,
        ⟨(some 23), .ext (.t 20) 0, none, [], false⟩,
        ⟨(some 24), .ext (.t 20) 1, none, [], false⟩,
        ⟨(some 0), .mv (.t 23), none, [], false⟩,
        ⟨(some 5), .mv (.t 24), none, [], false⟩])
      (.seq (.reg [
         ⟨(some 25), .mv (.t 1), none, [], false⟩,
         ⟨(some 26), .mv (.t 5), none, [], false⟩,
         ⟨(some 27), .bin .add (.t 25) (.t 26), none, [], false⟩,
         ⟨(some 1), .mv (.t 27), none, [], false⟩])
       (.seq (.reg [
          ⟨(some 28), .mv (.t 0), none, [], false⟩,
          ⟨(some 29), .xf 1 (.t 28), none, [], false⟩,
          ⟨(some 6), .mv (.t 29), none, [], false⟩])
        (.seq (.reg [
           ⟨(some 30), .mv (.t 1), none, [], false⟩,
           ⟨(some 31), .mv (.t 6), none, [], false⟩,
           ⟨(some 32), .bin .shr (.t 31) (.k (.int .u64 52)), none, [], false⟩,
           ⟨(some 33), .cvi .i64 (.t 32), none, [], false⟩,
           ⟨(some 34), .bin .and (.t 33) (.k (.int .i64 2047)), none, [], false⟩,
           ⟨(some 35), .bin .sub (.t 34) (.k (.int .i64 1023)), none, [], false⟩,
           ⟨(some 36), .bin .add (.t 30) (.t 35), none, [], false⟩,
           ⟨(some 1), .mv (.t 36), none, [], false⟩])
         (.seq (.seq (.reg [
             ⟨(some 37), .mv (.t 1), none, [], false⟩,
             ⟨(some 38), .bin .lss (.t 37) (.k (.int .i64 (-1075))), none, [], false⟩])
           (.cond (.t 38) (.seq (.reg [
               ⟨(some 39), .mv (.t 0), none, [], false⟩,
               ⟨(some 40), .call (.k (.fn 125 [])) [(.k (.flt .f64 0)), (.t 39)], none, [], false⟩,
               ⟨(some 4), .mv (.t 40), none, [], false⟩])
             (.ret))
            (.skip)))
          (.seq (.seq (.reg [
              ⟨(some 41), .mv (.t 1), none, [], false⟩,
              ⟨(some 42), .bin .gtr (.t 41) (.k (.int .i64 1023)), none, [], false⟩])
            (.cond (.t 42) (.seq (.seq (.reg [
                 ⟨(some 43), .mv (.t 0), none, [], false⟩,
                 ⟨(some 44), .bin .lss (.t 43) (.k (.flt .f64 0)), none, [], false⟩])
               (.cond (.t 44) (.seq (.reg [
                   ⟨(some 45), .call (.k (.fn 126 [])) [(.k (.int .i64 (-1)))], none, [], false⟩,
                   ⟨(some 4), .mv (.t 45), none, [], false⟩])
                 (.ret))
                (.skip)))
              (.seq (.reg [
                 ⟨(some 46), .call (.k (.fn 126 [])) [(.k (.int .i64 1))], none, [], false⟩,
                 ⟨(some 4), .mv (.t 46), none, [], false⟩])
               (.ret)))
             (.skip)))
           (.seq (.reg [
              ⟨(some 7), .mv (.k (.flt .f64 4607182418800017408)), none, [], false⟩])
            (.seq (.seq (.reg [
                ⟨(some 47), .mv (.t 1), none, [], false⟩,
                ⟨(some 48), .bin .lss (.t 47) (.k (.int .i64 (-1022))), none, [], false⟩])
              (.cond (.t 48) (.seq (.reg [
                  ⟨(some 49), .mv (.t 1), none, [], false⟩,
                  ⟨(some 50), .bin .add (.t 49) (.k (.int .i64 53)), none, [], false⟩,
                  ⟨(some 1), .mv (.t 50), none, [], false⟩])
                (.reg [
                  ⟨(some 7), .mv (.k (.flt .f64 4368491638549381120)), none, [], false⟩]))
               (.skip)))
             (.seq (.reg [
                ⟨(some 51), .mv (.t 6), none, [], false⟩,
                ⟨(some 52), .bin .andNot (.t 51) (.k (.int .u64 9218868437227405312)), none, [], false⟩,
                ⟨(some 6), .mv (.t 52), none, [], false⟩])
              (.seq (.reg [
                 ⟨(some 53), .mv (.t 6), none, [], false⟩,
                 ⟨(some 54), .mv (.t 1), none, [], false⟩,
                 ⟨(some 55), .bin .add (.t 54) (.k (.int .i64 1023)), none, [], false⟩,
                 ⟨(some 56), .cvi .u64 (.t 55), none, [], false⟩,
                 ⟨(some 57), .bin .shl (.t 56) (.k (.int .u64 52)), none, [], false⟩,
                 ⟨(some 58), .bin .or (.t 53) (.t 57), none, [], false⟩,
                 ⟨(some 6), .mv (.t 58), none, [], false⟩])
               (.seq (.reg [
                  ⟨(some 59), .mv (.t 7), none, [], false⟩,
                  ⟨(some 60), .mv (.t 6), none, [], false⟩,
                  ⟨(some 61), .xf 2 (.t 60), none, [], false⟩,
                  ⟨(some 62), .bin .mul (.t 59) (.t 61), none, [], false⟩,
                  ⟨(some 4), .mv (.t 62), none, [], false⟩])
                (.ret)))))))))))))
/-- math.Ldexp -/
def c69 : CF where
  np := 2
  nt := 11
  res := [.t 4]
  code := .seq (.reg [
      ⟨(some 4), .mv (.k (.flt .f64 0)), none, [], false⟩])
    (.seq (.cond (.k (.bool false)) (.seq (.reg [
         ⟨(some 5), .mv (.t 0), none, [], false⟩,
         ⟨(some 6), .mv (.t 1), none, [], false⟩,
         ⟨(some 7), .call (.k (.fn 107 [])) [(.t 5), (.t 6)], none, [], false⟩,
         ⟨(some 4), .mv (.t 7), none, [], false⟩])
       (.ret))
      (.skip))
     (.seq (.reg [
        ⟨(some 8), .mv (.t 0), none, [], false⟩,
        ⟨(some 9), .mv (.t 1), none, [], false⟩,
        ⟨(some 10), .call (.k (.fn 108 [])) [(.t 8), (.t 9)], none, [], false⟩,
        ⟨(some 4), .mv (.t 10), none, [], false⟩])
      (.ret)))
/-- skyway/bits.FromFixed -/
def c25 : CF where
  np := 2
  nt := 18
  res := [.t 4, .t 5]
  code := .seq (.reg [
      ⟨(some 4), .mv (.k (.int .u64 0)), none, [], false⟩,
      ⟨(some 5), .mv (.k (.int .i64 0)), none, [], false⟩])
    (.seq (.seq (.reg [
        ⟨(some 6), .mv (.t 1), none, [], false⟩,
        ⟨(some 7), .bin .lss (.t 6) (.k (.int .i64 0)), none, [], false⟩,
        ⟨(some 8), .mv (.t 7), none, [], false⟩,
        ⟨(some 9), .mv (.t 1), (some (8, false)), [], false⟩,
        ⟨(some 10), .bin .gtr (.t 9) (.k (.int .i64 60)), (some (8, false)), [], false⟩,
        ⟨(some 11), .pick (.t 8) (.k (.bool true)) (.t 10), none, [], false⟩])
      (.cond (.t 11) (.seq (.reg [
          ⟨(some 4), .mv (.k (.int .u64 0)), none, [], false⟩,
          ⟨(some 5), .mv (.k (.int .i64 4)), none, [], false⟩])
        (.ret))
       (.skip)))
     (.seq (.reg [
        ⟨(some 12), .mv (.t 0), none, [], false⟩,
        ⟨(some 13), .cvf .f64 (.t 12), none, [], false⟩,
        ⟨(some 14), .mv (.t 1), none, [], false⟩,
        ⟨(some 15), .un .neg (.t 14), none, [], false⟩,
        ⟨(some 16), .call (.k (.fn 69 [])) [(.t 13), (.t 15)], none, [], false⟩,
        ⟨(some 17), .xf 1 (.t 16), none, [], false⟩,
        ⟨(some 4), .mv (.t 17), none, [], false⟩,
        ⟨(some 5), .mv (.k (.int .i64 0)), none, [], false⟩])
      (.ret)))
/-- skyway/bits.finite -/
def c104 : CF where
  np := 1
  nt := 7
  res := [.t 2]
  code := .seq (.reg [
      ⟨(some 2), .mv (.k (.bool false)), none, [], false⟩])
    (.seq (.reg [
       ⟨(some 3), .mv (.t 0), none, [], false⟩,
       ⟨(some 4), .bin .shr (.t 3) (.k (.int .u64 52)), none, [], false⟩,
       ⟨(some 5), .bin .and (.t 4) (.k (.int .u64 2047)), none, [], false⟩,
       ⟨(some 6), .bin .neq (.t 5) (.k (.int .u64 2047)), none, [], false⟩,
       ⟨(some 2), .mv (.t 6), none, [], false⟩])
     (.ret))
/-- skyway/bits.parts -/
def c105 : CF where
  np := 1
  nt := 23
  res := [.t 2, .t 3, .t 4]
  code := .seq (.reg [
      ⟨(some 2), .mv (.k (.bool false)), none, [], false⟩,
      ⟨(some 3), .mv (.k (.int .i64 0)), none, [], false⟩,
      ⟨(some 4), .mv (.k (.int .u64 0)), none, [], false⟩])
    (.seq (.reg [
       ⟨(some 5), .mv (.t 0), none, [], false⟩,
       ⟨(some 6), .bin .shr (.t 5) (.k (.int .u64 63)), none, [], false⟩,
       ⟨(some 7), .bin .eql (.t 6) (.k (.int .u64 1)), none, [], false⟩,
       ⟨(some 8), .mv (.t 0), none, [], false⟩,
       ⟨(some 9), .bin .shr (.t 8) (.k (.int .u64 52)), none, [], false⟩,
       ⟨(some 10), .bin .and (.t 9) (.k (.int .u64 2047)), none, [], false⟩,
       ⟨(some 11), .cvi .i64 (.t 10), none, [], false⟩,
       ⟨(some 12), .mv (.t 0), none, [], false⟩,
       ⟨(some 13), .bin .and (.t 12) (.k (.int .u64 4503599627370495)), none, [], false⟩,
       ⟨(some 2), .mv (.t 7), none, [], false⟩,
       ⟨(some 3), .mv (.t 11), none, [], false⟩,
       ⟨(some 4), .mv (.t 13), none, [], false⟩])
     (.seq (.seq (.reg [
         ⟨(some 14), .mv (.t 3), none, [], false⟩,
         ⟨(some 15), .bin .gtr (.t 14) (.k (.int .i64 0)), none, [], false⟩])
       (.cond (.t 15) (.reg [
          ⟨(some 16), .mv (.t 4), none, [], false⟩,
          ⟨(some 17), .bin .or (.t 16) (.k (.int .u64 4503599627370496)), none, [], false⟩,
          ⟨(some 4), .mv (.t 17), none, [], false⟩])
        (.reg [
          ⟨(some 3), .mv (.k (.int .i64 1)), none, [], false⟩])))
      (.seq (.reg [
         ⟨(some 18), .mv (.t 2), none, [], false⟩,
         ⟨(some 19), .mv (.t 3), none, [], false⟩,
         ⟨(some 20), .bin .sub (.t 19) (.k (.int .i64 1023)), none, [], false⟩,
         ⟨(some 21), .bin .sub (.t 20) (.k (.int .i64 52)), none, [], false⟩,
         ⟨(some 22), .mv (.t 4), none, [], false⟩,
         ⟨(some 2), .mv (.t 18), none, [], false⟩,
         ⟨(some 3), .mv (.t 21), none, [], false⟩,
         ⟨(some 4), .mv (.t 22), none, [], false⟩])
       (.ret))))
/-- math/bits.Len64 -/
def c106 : CF where
  np := 1
  nt := 25
  res := [.t 2]
  code := .seq (.reg [
      ⟨(some 2), .mv (.k (.int .i64 0)), none, [], false⟩])
    (.seq (.seq (.reg [
        ⟨(some 3), .mv (.t 0), none, [], false⟩,
        ⟨(some 4), .bin .geq (.t 3) (.k (.int .u64 4294967296)), none, [], false⟩])
      (.cond (.t 4) (.seq (.reg [
          ⟨(some 5), .mv (.t 0), none, [], false⟩,
          ⟨(some 6), .bin .shr (.t 5) (.k (.int .u64 32)), none, [], false⟩,
          ⟨(some 0), .mv (.t 6), none, [], false⟩])
        (.reg [
          ⟨(some 2), .mv (.k (.int .i64 32)), none, [], false⟩]))
       (.skip)))
     (.seq (.seq (.reg [
         ⟨(some 7), .mv (.t 0), none, [], false⟩,
         ⟨(some 8), .bin .geq (.t 7) (.k (.int .u64 65536)), none, [], false⟩])
       (.cond (.t 8) (.seq (.reg [
           ⟨(some 9), .mv (.t 0), none, [], false⟩,
           ⟨(some 10), .bin .shr (.t 9) (.k (.int .u64 16)), none, [], false⟩,
           ⟨(some 0), .mv (.t 10), none, [], false⟩])
         (.reg [
           ⟨(some 11), .mv (.t 2), none, [], false⟩,
           ⟨(some 12), .bin .add (.t 11) (.k (.int .i64 16)), none, [], false⟩,
           ⟨(some 2), .mv (.t 12), none, [], false⟩]))
        (.skip)))
      (.seq (.seq (.reg [
          ⟨(some 13), .mv (.t 0), none, [], false⟩,
          ⟨(some 14), .bin .geq (.t 13) (.k (.int .u64 256)), none, [], false⟩])
        (.cond (.t 14) (.seq (.reg [
            ⟨(some 15), .mv (.t 0), none, [], false⟩,
            ⟨(some 16), .bin .shr (.t 15) (.k (.int .u64 8)), none, [], false⟩,
            ⟨(some 0), .mv (.t 16), none, [], false⟩])
          (.reg [
            ⟨(some 17), .mv (.t 2), none, [], false⟩,
            ⟨(some 18), .bin .add (.t 17) (.k (.int .i64 8)), none, [], false⟩,
            ⟨(some 2), .mv (.t 18), none, [], false⟩]))
         (.skip)))
       (.seq (.reg [
          ⟨(some 19), .mv (.t 2), none, [], false⟩,
          ⟨(some 20), .mv (.t 0), none, [], false⟩,
          ⟨(some 21), .cvi .u8 (.t 20), none, [], false⟩,
          ⟨(some 22), .ixs (.k (.str ⟨#[0, 1, 2, 2, 3, 3, 3, 3, 4, 4, 4, 4, 4, 4, 4, 4, 5, 5, 5, 5, 5, 5, 5, 5, 5, 5, 5, 5, 5, 5, 5, 5, 6, 6, 6, 6, 6, 6, 6, 6, 6, 6, 6, 6, 6, 6, 6, 6, 6, 6, 6, 6, 6, 6, 6, 6, 6, 6, 6, 6, 6, 6, 6, 6, 7, 7, 7, 7, 7, 7, 7, 7, 7, 7, 7, 7, 7, 7, 7, 7, 7, 7, 7, 7, 7, 7, 7, 7, 7, 7, 7, 7, 7, 7, 7, 7, 7, 7, 7, 7, 7, 7, 7, 7, 7, 7, 7, 7, 7, 7, 7, 7, 7, 7, 7, 7, 7, 7, 7, 7, 7, 7, 7, 7, 7, 7, 7, 7, 8, 8, 8, 8, 8, 8, 8, 8, 8, 8, 8, 8, 8, 8, 8, 8, 8, 8, 8, 8, 8, 8, 8, 8, 8, 8, 8, 8, 8, 8, 8, 8, 8, 8, 8, 8, 8, 8, 8, 8, 8, 8, 8, 8, 8, 8, 8, 8, 8, 8, 8, 8, 8, 8, 8, 8, 8, 8, 8, 8, 8, 8, 8, 8, 8, 8, 8, 8, 8, 8, 8, 8, 8, 8, 8, 8, 8, 8, 8, 8, 8, 8, 8, 8, 8, 8, 8, 8, 8, 8, 8, 8, 8, 8, 8, 8, 8, 8, 8, 8, 8, 8, 8, 8, 8, 8, 8, 8, 8, 8, 8, 8, 8, 8, 8, 8, 8, 8, 8, 8, 8, 8, 8, 8, 8, 8, 8, 8]⟩)) (.t 21), none, [], false⟩,
          ⟨(some 23), .cvi .i64 (.t 22), none, [], false⟩,
          ⟨(some 24), .bin .add (.t 19) (.t 23), none, [], false⟩,
          ⟨(some 2), .mv (.t 24), none, [], false⟩])
        (.ret)))))
/-- skyway/bits.ToFixed -/
def c67 : CF where
  np := 2
  nt := 82
  res := [.t 4, .t 5, .t 6]
  code := .seq (.reg [
      ⟨(some 4), .mv (.k (.int .i64 0)), none, [], false⟩,
      ⟨(some 5), .mv (.k (.bool false)), none, [], false⟩,
      ⟨(some 6), .mv (.k (.int .i64 0)), none, [], false⟩])
    (.seq (.blk 0 (.seq (.reg [
         ⟨(some 12), .mv (.t 1), none, [], false⟩,
         ⟨(some 13), .bin .lss (.t 12) (.k (.int .i64 0)), none, [], false⟩,
         ⟨(some 14), .mv (.t 13), none, [], false⟩,
         ⟨(some 15), .mv (.t 1), (some (14, false)), [], false⟩,
         ⟨(some 16), .bin .gtr (.t 15) (.k (.int .i64 60)), (some (14, false)), [], false⟩,
         ⟨(some 17), .pick (.t 14) (.k (.bool true)) (.t 16), none, [], false⟩,
         ⟨(some 11), .mv (.t 17), none, [], false⟩])
       (.cond (.t 11) (.seq (.reg [
           ⟨(some 4), .mv (.k (.int .i64 0)), none, [], false⟩,
           ⟨(some 5), .mv (.k (.bool false)), none, [], false⟩,
           ⟨(some 6), .mv (.k (.int .i64 4)), none, [], false⟩])
         (.ret))
        (.seq (.reg [
           ⟨(some 19), .mv (.t 0), none, [], false⟩,
           ⟨(some 20), .call (.k (.fn 104 [])) [(.t 19)], none, [], false⟩,
           ⟨(some 21), .un .not (.t 20), none, [], false⟩,
           ⟨(some 18), .mv (.t 21), none, [], false⟩])
         (.cond (.t 18) (.seq (.reg [
             ⟨(some 4), .mv (.k (.int .i64 0)), none, [], false⟩,
             ⟨(some 5), .mv (.k (.bool false)), none, [], false⟩,
             ⟨(some 6), .mv (.k (.int .i64 3)), none, [], false⟩])
           (.ret))
          (.skip))))))
     (.seq (.reg [
        ⟨(some 23), .mv (.t 0), none, [], false⟩,
        ⟨(some 24), .call (.k (.fn 105 [])) [(.t 23)], none, [], false⟩,
        ⟨(some 22), .mv (.t 24), none, [], false⟩,
        ⟨(some 25), .ext (.t 22) 0, none, [], false⟩,
        ⟨(some 26), .ext (.t 22) 1, none, [], false⟩,
        ⟨(some 27), .ext (.t 22) 2, none, [], false⟩,
        ⟨(some 7), .mv (.t 25), none, [], false⟩,
        ⟨(some 8), .mv (.t 26), none, [], false⟩,
        ⟨(some 9), .mv (.t 27), none, [], false⟩])
      (.seq (.reg [
         ⟨(some 28), .mv (.t 8), none, [], false⟩,
         ⟨(some 29), .mv (.t 1), none, [], false⟩,
         ⟨(some 30), .bin .add (.t 28) (.t 29), none, [], false⟩,
         ⟨(some 8), .mv (.t 30), none, [], false⟩])
       (.seq (.reg [
          ⟨(some 10), .mv (.k (.bool false)), none, [], false⟩])
        (.seq (.blk 1 (.seq (.reg [
             ⟨(some 43), .mv (.t 9), none, [], false⟩,
             ⟨(some 44), .bin .eql (.t 43) (.k (.int .u64 0)), none, [], false⟩,
             ⟨(some 42), .mv (.t 44), none, [], false⟩])
           (.cond (.t 42) (.seq (.reg [
               ⟨(some 4), .mv (.k (.int .i64 0)), none, [], false⟩,
               ⟨(some 5), .mv (.k (.bool true)), none, [], false⟩,
               ⟨(some 6), .mv (.k (.int .i64 0)), none, [], false⟩])
             (.ret))
            (.seq (.reg [
               ⟨(some 46), .mv (.t 8), none, [], false⟩,
               ⟨(some 47), .bin .gtr (.t 46) (.k (.int .i64 0)), none, [], false⟩,
               ⟨(some 45), .mv (.t 47), none, [], false⟩])
             (.cond (.t 45) (.seq (.seq (.reg [
                  ⟨(some 48), .mv (.t 9), none, [], false⟩,
                  ⟨(some 49), .call (.k (.fn 106 [])) [(.t 48)], none, [], false⟩,
                  ⟨(some 50), .mv (.t 8), none, [], false⟩,
                  ⟨(some 51), .bin .add (.t 49) (.t 50), none, [], false⟩,
                  ⟨(some 52), .bin .gtr (.t 51) (.k (.int .i64 64)), none, [], false⟩])
                (.cond (.t 52) (.seq (.reg [
                    ⟨(some 4), .mv (.k (.int .i64 0)), none, [], false⟩,
                    ⟨(some 5), .mv (.k (.bool false)), none, [], false⟩,
                    ⟨(some 6), .mv (.k (.int .i64 2)), none, [], false⟩])
                  (.ret))
                 (.skip)))
               (.reg [
                 ⟨(some 53), .mv (.t 9), none, [], false⟩,
                 ⟨(some 54), .mv (.t 8), none, [], false⟩,
                 ⟨(some 55), .bin .shl (.t 53) (.t 54), none, [], false⟩,
                 ⟨(some 9), .mv (.t 55), none, [], false⟩]))
              (.seq (.reg [
                 ⟨(some 57), .mv (.t 8), none, [], false⟩,
                 ⟨(some 58), .bin .lss (.t 57) (.k (.int .i64 (-63))), none, [], false⟩,
                 ⟨(some 56), .mv (.t 58), none, [], false⟩])
               (.cond (.t 56) (.reg [
                  ⟨(some 9), .mv (.k (.int .u64 0)), none, [], false⟩,
                  ⟨(some 10), .mv (.k (.bool true)), none, [], false⟩])
                (.seq (.reg [
                   ⟨(some 31), .mv (.t 9), none, [], false⟩,
                   ⟨(some 32), .mv (.t 8), none, [], false⟩,
                   ⟨(some 33), .un .neg (.t 32), none, [], false⟩,
                   ⟨(some 34), .bin .shl (.k (.int .u64 1)) (.t 33), none, [], false⟩,
                   ⟨(some 35), .bin .sub (.t 34) (.k (.int .u64 1)), none, [], false⟩,
                   ⟨(some 36), .bin .and (.t 31) (.t 35), none, [], false⟩,
                   ⟨(some 37), .bin .neq (.t 36) (.k (.int .u64 0)), none, [], false⟩,
                   ⟨(some 10), .mv (.t 37), none, [], false⟩])
                 (.reg [
                   ⟨(some 38), .mv (.t 9), none, [], false⟩,
                   ⟨(some 39), .mv (.t 8), none, [], false⟩,
                   ⟨(some 40), .un .neg (.t 39), none, [], false⟩,
                   ⟨(some 41), .bin .shr (.t 38) (.t 40), none, [], false⟩,
                   ⟨(some 9), .mv (.t 41), none, [], false⟩])))))))))
         (.seq (.blk 2 (.seq (.blk 5 (.seq (.blk 4 (.seq (.blk 3 (.seq (.seq (.seq (.reg [
                      ⟨(some 60), .mv (.t 7), none, [], false⟩,
                      ⟨(some 61), .mv (.t 60), none, [], false⟩,
                      ⟨(some 62), .mv (.t 10), (some (61, true)), [], false⟩,
                      ⟨(some 63), .pick (.t 61) (.t 62) (.k (.bool false)), none, [], false⟩,
                      ⟨(some 59), .mv (.t 63), none, [], false⟩])
                    (.cond (.t 59) (.exit 3)
                     (.skip)))
                   (.seq (.seq (.reg [
                       ⟨(some 65), .mv (.t 7), none, [], false⟩,
                       ⟨(some 64), .mv (.t 65), none, [], false⟩])
                     (.cond (.t 64) (.exit 4)
                      (.skip)))
                    (.seq (.reg [
                       ⟨(some 67), .mv (.t 9), none, [], false⟩,
                       ⟨(some 68), .bin .geq (.t 67) (.k (.int .u64 9223372036854775808)), none, [], false⟩,
                       ⟨(some 66), .mv (.t 68), none, [], false⟩])
                     (.cond (.t 66) (.exit 5)
                      (.skip)))))
                  (.exit 2)))
                (.reg [
                  ⟨(some 69), .mv (.t 9), none, [], false⟩,
                  ⟨(some 70), .bin .add (.t 69) (.k (.int .u64 1)), none, [], false⟩,
                  ⟨(some 9), .mv (.t 70), none, [], false⟩])))
              (.seq (.seq (.seq (.reg [
                   ⟨(some 71), .mv (.t 9), none, [], false⟩,
                   ⟨(some 72), .bin .gtr (.t 71) (.k (.int .u64 9223372036854775808)), none, [], false⟩])
                 (.cond (.t 72) (.seq (.reg [
                     ⟨(some 4), .mv (.k (.int .i64 0)), none, [], false⟩,
                     ⟨(some 5), .mv (.k (.bool false)), none, [], false⟩,
                     ⟨(some 6), .mv (.k (.int .i64 2)), none, [], false⟩])
                   (.ret))
                  (.skip)))
                (.seq (.reg [
                   ⟨(some 73), .mv (.t 9), none, [], false⟩,
                   ⟨(some 74), .un .neg (.t 73), none, [], false⟩,
                   ⟨(some 75), .cvi .i64 (.t 74), none, [], false⟩,
                   ⟨(some 76), .mv (.t 10), none, [], false⟩,
                   ⟨(some 77), .un .not (.t 76), none, [], false⟩,
                   ⟨(some 4), .mv (.t 75), none, [], false⟩,
                   ⟨(some 5), .mv (.t 77), none, [], false⟩,
                   ⟨(some 6), .mv (.k (.int .i64 0)), none, [], false⟩])
                 (.ret)))
               (.exit 2))))
            (.seq (.seq (.reg [
                ⟨(some 4), .mv (.k (.int .i64 0)), none, [], false⟩,
                ⟨(some 5), .mv (.k (.bool false)), none, [], false⟩,
                ⟨(some 6), .mv (.k (.int .i64 2)), none, [], false⟩])
              (.ret))
             (.exit 2))))
          (.seq (.reg [
             ⟨(some 78), .mv (.t 9), none, [], false⟩,
             ⟨(some 79), .cvi .i64 (.t 78), none, [], false⟩,
             ⟨(some 80), .mv (.t 10), none, [], false⟩,
             ⟨(some 81), .un .not (.t 80), none, [], false⟩,
             ⟨(some 4), .mv (.t 79), none, [], false⟩,
             ⟨(some 5), .mv (.t 81), none, [], false⟩,
             ⟨(some 6), .mv (.k (.int .i64 0)), none, [], false⟩])
           (.ret))))))))
/-- skyway/skywaylaw1.bitsWorks -/
def c24 : CF where
  np := 0
  nt := 33
  res := [.t 0]
  code := .seq (.reg [
      ⟨(some 0), .mv (.k (.bool false)), none, [], false⟩])
    (.seq (.reg [
       ⟨(some 7), .call (.k (.fn 25 [])) [(.k (.int .i64 3)), (.k (.int .i64 1))], none, [], false⟩,
       ⟨(some 6), .mv (.t 7), none, [], false⟩,
       ⟨(some 8), .ext (.t 6) 0, none, [], false⟩,
       ⟨(some 9), .ext (.t 6) 1, none, [], false⟩,
       ⟨(some 1), .mv (.t 8), none, [], false⟩,
       ⟨(some 2), .mv (.t 9), none, [], false⟩])
     (.seq (.reg [
        ⟨(some 11), .call (.k (.fn 67 [])) [(.k (.int .u64 13832806255468478464)), (.k (.int .i64 0))], none, [], false⟩,
        ⟨(some 10), .mv (.t 11), none, [], false⟩,
        ⟨(some 12), .ext (.t 10) 0, none, [], false⟩,
        ⟨(some 13), .ext (.t 10) 1, none, [], false⟩,
        ⟨(some 14), .ext (.t 10) 2, none, [], false⟩,
        ⟨(some 3), .mv (.t 12), none, [], false⟩,
        ⟨(some 4), .mv (.t 13), none, [], false⟩,
        ⟨(some 5), .mv (.t 14), none, [], false⟩])
      (.seq (.reg [
         ⟨(some 15), .mv (.t 2), none, [], false⟩,
         ⟨(some 16), .bin .eql (.t 15) (.k (.int .i64 0)), none, [], false⟩,
         ⟨(some 17), .mv (.t 16), none, [], false⟩,
         ⟨(some 18), .mv (.t 1), (some (17, true)), [], false⟩,
         ⟨(some 19), .bin .eql (.t 18) (.k (.int .u64 4609434218613702656)), (some (17, true)), [], false⟩,
         ⟨(some 20), .pick (.t 17) (.t 19) (.k (.bool false)), none, [], false⟩,
         ⟨(some 21), .mv (.t 20), none, [], false⟩,
         ⟨(some 22), .mv (.t 5), (some (21, true)), [], false⟩,
         ⟨(some 23), .bin .eql (.t 22) (.k (.int .i64 0)), (some (21, true)), [], false⟩,
         ⟨(some 24), .pick (.t 21) (.t 23) (.k (.bool false)), none, [], false⟩,
         ⟨(some 25), .mv (.t 24), none, [], false⟩,
         ⟨(some 26), .mv (.t 3), (some (25, true)), [], false⟩,
         ⟨(some 27), .bin .eql (.t 26) (.k (.int .i64 (-2))), (some (25, true)), [], false⟩,
         ⟨(some 28), .pick (.t 25) (.t 27) (.k (.bool false)), none, [], false⟩,
         ⟨(some 29), .mv (.t 28), none, [], false⟩,
         ⟨(some 30), .mv (.t 4), (some (29, true)), [], false⟩,
         ⟨(some 31), .un .not (.t 30), (some (29, true)), [], false⟩,
         ⟨(some 32), .pick (.t 29) (.t 31) (.k (.bool false)), none, [], false⟩,
         ⟨(some 0), .mv (.t 32), none, [], false⟩])
       (.ret))))
theorem ok57 : cFunc Try.prog Try.f57 = some c57 := by kernel_rfl
theorem ok58 : cFunc Try.prog Try.f58 = some c58 := by kernel_rfl
theorem ok16 : cFunc Try.prog Try.f16 = some c16 := by kernel_rfl
theorem ok95 : cFunc Try.prog Try.f95 = some c95 := by kernel_rfl
theorem ok118 : cFunc Try.prog Try.f118 = some c118 := by kernel_rfl
theorem ok93 : cFunc Try.prog Try.f93 = some c93 := by kernel_rfl
theorem ok80 : cFunc Try.prog Try.f80 = some c80 := by kernel_rfl
theorem ok42 : cFunc Try.prog Try.f42 = some c42 := by kernel_rfl
theorem ok55 : cFunc Try.prog Try.f55 = some c55 := by kernel_rfl
theorem ok94 : cFunc Try.prog Try.f94 = some c94 := by kernel_rfl
theorem ok56 : cFunc Try.prog Try.f56 = some c56 := by kernel_rfl
theorem ok15 : cFunc Try.prog Try.f15 = some c15 := by kernel_rfl
theorem ok17 : cFunc Try.prog Try.f17 = some c17 := by kernel_rfl
theorem ok59 : cFunc Try.prog Try.f59 = some c59 := by kernel_rfl
theorem ok18 : cFunc Try.prog Try.f18 = some c18 := by kernel_rfl
theorem ok3 : cFunc Try.prog Try.f3 = some c3 := by kernel_rfl
theorem ok98 : cFunc Try.prog Try.f98 = some c98 := by kernel_rfl
theorem ok119 : cFunc Try.prog Try.f119 = some c119 := by kernel_rfl
theorem ok99 : cFunc Try.prog Try.f99 = some c99 := by kernel_rfl
theorem ok64 : cFunc Try.prog Try.f64 = some c64 := by kernel_rfl
theorem ok60 : cFunc Try.prog Try.f60 = some c60 := by kernel_rfl
theorem ok100 : cFunc Try.prog Try.f100 = some c100 := by kernel_rfl
theorem ok101 : cFunc Try.prog Try.f101 = some c101 := by kernel_rfl
theorem ok120 : cFunc Try.prog Try.f120 = some c120 := by kernel_rfl
theorem ok102 : cFunc Try.prog Try.f102 = some c102 := by kernel_rfl
theorem ok65 : cFunc Try.prog Try.f65 = some c65 := by kernel_rfl
theorem ok61 : cFunc Try.prog Try.f61 = some c61 := by kernel_rfl
theorem ok96 : cFunc Try.prog Try.f96 = some c96 := by kernel_rfl
theorem ok97 : cFunc Try.prog Try.f97 = some c97 := by kernel_rfl
theorem ok62 : cFunc Try.prog Try.f62 = some c62 := by kernel_rfl
theorem ok19 : cFunc Try.prog Try.f19 = some c19 := by kernel_rfl
theorem ok20 : cFunc Try.prog Try.f20 = some c20 := by kernel_rfl
theorem ok63 : cFunc Try.prog Try.f63 = some c63 := by kernel_rfl
theorem ok21 : cFunc Try.prog Try.f21 = some c21 := by kernel_rfl
theorem ok4 : cFunc Try.prog Try.f4 = some c4 := by kernel_rfl
theorem ok23 : cFunc Try.prog Try.f23 = some c23 := by kernel_rfl
theorem ok39 : cFunc Try.prog Try.f39 = some c39 := by kernel_rfl
theorem ok129 : cFunc Try.prog Try.f129 = some c129 := by kernel_rfl
theorem ok121 : cFunc Try.prog Try.f121 = some c121 := by kernel_rfl
theorem ok103 : cFunc Try.prog Try.f103 = some c103 := by kernel_rfl
theorem ok66 : cFunc Try.prog Try.f66 = some c66 := by kernel_rfl
theorem ok22 : cFunc Try.prog Try.f22 = some c22 := by kernel_rfl
theorem ok5 : cFunc Try.prog Try.f5 = some c5 := by kernel_rfl
theorem ok107 : cFunc Try.prog Try.f107 = some c107 := by kernel_rfl
theorem ok130 : cFunc Try.prog Try.f130 = some c130 := by kernel_rfl
theorem ok122 : cFunc Try.prog Try.f122 = some c122 := by kernel_rfl
theorem ok123 : cFunc Try.prog Try.f123 = some c123 := by kernel_rfl
theorem ok124 : cFunc Try.prog Try.f124 = some c124 := by kernel_rfl
theorem ok125 : cFunc Try.prog Try.f125 = some c125 := by kernel_rfl
theorem ok126 : cFunc Try.prog Try.f126 = some c126 := by kernel_rfl
theorem ok108 : cFunc Try.prog Try.f108 = some c108 := by kernel_rfl
theorem ok69 : cFunc Try.prog Try.f69 = some c69 := by kernel_rfl
theorem ok25 : cFunc Try.prog Try.f25 = some c25 := by kernel_rfl
theorem ok104 : cFunc Try.prog Try.f104 = some c104 := by kernel_rfl
theorem ok105 : cFunc Try.prog Try.f105 = some c105 := by kernel_rfl
theorem ok106 : cFunc Try.prog Try.f106 = some c106 := by kernel_rfl
theorem ok67 : cFunc Try.prog Try.f67 = some c67 := by kernel_rfl
theorem ok24 : cFunc Try.prog Try.f24 = some c24 := by kernel_rfl
end Go.Proofs.Ytpehhlfbnkakpaa.CodeAll
