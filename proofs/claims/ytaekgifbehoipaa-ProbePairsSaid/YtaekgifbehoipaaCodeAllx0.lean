/- The code of functions of the program, for the abstract machine; each is what the function is turned into. No condition. -/
import Derived.Test.YtaekgifbehoipaaEvaO
import Derived.Test.YtaekgifbehoipaaChecked
import Derived.KernelRfl
namespace Go.Proofs.Ytaekgifbehoipaa.CodeAll
open Go Go.Proofs.Ytaekgifbehoipaa.Eva
/-- skyway/skywaylaw1.node -/
def c50 : CF where
  np := 6
  nt := 22
  res := [.cn 6 12]
  code := .seq (.reg [
      ⟨(some 12), .new [.int .i64 0, .int .i64 0, .int .i64 0, .int .i64 0, .int .i64 0, .int .i64 0], none, [], false⟩])
    (.seq (.reg [
       ⟨(some 13), .mv (.t 0), none, [], false⟩,
       ⟨(some 14), .mv (.t 1), none, [], false⟩,
       ⟨(some 15), .mv (.t 2), none, [], false⟩,
       ⟨(some 16), .mk [.int .i64 0, .int .i64 0] [(0, 1, (.t 14)), (1, 1, (.t 15))], none, [], false⟩,
       ⟨(some 17), .mv (.t 3), none, [], false⟩,
       ⟨(some 18), .mk [.int .i64 0, .int .i64 0, .int .i64 0, .int .i64 0] [(0, 1, (.t 13)), (1, 2, (.t 16)), (3, 1, (.t 17))], none, [], false⟩,
       ⟨(some 19), .mv (.t 4), none, [], false⟩,
       ⟨(some 20), .mv (.t 5), none, [], false⟩,
       ⟨(some 21), .mk [.int .i64 0, .int .i64 0, .int .i64 0, .int .i64 0, .int .i64 0, .int .i64 0] [(0, 4, (.t 18)), (4, 1, (.t 19)), (5, 1, (.t 20))], none, [], false⟩,
       ⟨none, .st 6 (.t 12) (.t 21), none, [], false⟩])
     (.ret))
/-- skyway/probe.CheckSep -/
def c17 : CF where
  np := 1
  nt := 21
  res := [.t 2]
  code := .seq (.reg [
      ⟨(some 1), .box (.t 0), none, [], false⟩,
      ⟨(some 2), .mv (.k (.int .i64 0)), none, [], false⟩])
    (.seq (.seq (.reg [
        ⟨(some 3), .fad 0 (.t 1), none, [], false⟩,
        ⟨(some 4), .ld1 (.t 3), none, [], false⟩,
        ⟨(some 5), .bin .lss (.t 4) (.k (.int .i64 0)), none, [], false⟩,
        ⟨(some 6), .mv (.t 5), none, [], false⟩,
        ⟨(some 7), .fad 0 (.t 1), (some (6, false)), [], false⟩,
        ⟨(some 8), .ld1 (.t 7), (some (6, false)), [], false⟩,
        ⟨(some 9), .bin .gtr (.t 8) (.k (.int .i64 1000000)), (some (6, false)), [], false⟩,
        ⟨(some 10), .pick (.t 6) (.k (.bool true)) (.t 9), none, [], false⟩,
        ⟨(some 11), .mv (.t 10), none, [], false⟩,
        ⟨(some 12), .fad 1 (.t 1), (some (11, false)), [], false⟩,
        ⟨(some 13), .ld1 (.t 12), (some (11, false)), [], false⟩,
        ⟨(some 14), .bin .lss (.t 13) (.k (.int .i64 0)), (some (11, false)), [], false⟩,
        ⟨(some 15), .pick (.t 11) (.k (.bool true)) (.t 14), none, [], false⟩,
        ⟨(some 16), .mv (.t 15), none, [], false⟩,
        ⟨(some 17), .fad 1 (.t 1), (some (16, false)), [], false⟩,
        ⟨(some 18), .ld1 (.t 17), (some (16, false)), [], false⟩,
        ⟨(some 19), .bin .gtr (.t 18) (.k (.int .i64 60000)), (some (16, false)), [], false⟩,
        ⟨(some 20), .pick (.t 16) (.k (.bool true)) (.t 19), none, [], false⟩])
      (.cond (.t 20) (.seq (.reg [
          ⟨(some 2), .mv (.k (.int .i64 4)), none, [], false⟩])
        (.ret))
       (.skip)))
     (.seq (.reg [
        ⟨(some 2), .mv (.k (.int .i64 0)), none, [], false⟩])
      (.ret)))
/-- skyway/plane.Check -/
def c53 : CF where
  np := 1
  nt := 21
  res := [.t 2]
  code := .seq (.reg [
      ⟨(some 1), .box (.t 0), none, [], false⟩,
      ⟨(some 2), .mv (.k (.int .i64 0)), none, [], false⟩])
    (.seq (.seq (.reg [
        ⟨(some 3), .fad 0 (.t 1), none, [], false⟩,
        ⟨(some 4), .ld1 (.t 3), none, [], false⟩,
        ⟨(some 5), .bin .lss (.t 4) (.k (.int .i64 (-1000000))), none, [], false⟩,
        ⟨(some 6), .mv (.t 5), none, [], false⟩,
        ⟨(some 7), .fad 0 (.t 1), (some (6, false)), [], false⟩,
        ⟨(some 8), .ld1 (.t 7), (some (6, false)), [], false⟩,
        ⟨(some 9), .bin .gtr (.t 8) (.k (.int .i64 1000000)), (some (6, false)), [], false⟩,
        ⟨(some 10), .pick (.t 6) (.k (.bool true)) (.t 9), none, [], false⟩,
        ⟨(some 11), .mv (.t 10), none, [], false⟩,
        ⟨(some 12), .fad 1 (.t 1), (some (11, false)), [], false⟩,
        ⟨(some 13), .ld1 (.t 12), (some (11, false)), [], false⟩,
        ⟨(some 14), .bin .lss (.t 13) (.k (.int .i64 (-1000000))), (some (11, false)), [], false⟩,
        ⟨(some 15), .pick (.t 11) (.k (.bool true)) (.t 14), none, [], false⟩,
        ⟨(some 16), .mv (.t 15), none, [], false⟩,
        ⟨(some 17), .fad 1 (.t 1), (some (16, false)), [], false⟩,
        ⟨(some 18), .ld1 (.t 17), (some (16, false)), [], false⟩,
        ⟨(some 19), .bin .gtr (.t 18) (.k (.int .i64 1000000)), (some (16, false)), [], false⟩,
        ⟨(some 20), .pick (.t 16) (.k (.bool true)) (.t 19), none, [], false⟩])
      (.cond (.t 20) (.seq (.reg [
          ⟨(some 2), .mv (.k (.int .i64 4)), none, [], false⟩])
        (.ret))
       (.skip)))
     (.seq (.reg [
        ⟨(some 2), .mv (.k (.int .i64 0)), none, [], false⟩])
      (.ret)))
/-- skyway/tube.Check -/
def c18 : CF where
  np := 1
  nt := 86
  res := [.t 2]
  code := .seq (.reg [
      ⟨(some 2), .mv (.k (.int .i64 0)), none, [], false⟩])
    (.seq (.blk 0 (.seq (.reg [
         ⟨(some 7), .mv (.t 0), none, [], false⟩,
         ⟨(some 8), .lenv false (.t 7), none, [], false⟩,
         ⟨(some 9), .bin .gtr (.t 8) (.k (.int .i64 64)), none, [], false⟩,
         ⟨(some 6), .mv (.t 9), none, [], false⟩])
       (.cond (.t 6) (.seq (.reg [
           ⟨(some 2), .mv (.k (.int .i64 2)), none, [], false⟩])
         (.ret))
        (.seq (.reg [
           ⟨(some 11), .mv (.t 0), none, [], false⟩,
           ⟨(some 12), .lenv false (.t 11), none, [], false⟩,
           ⟨(some 13), .bin .eql (.t 12) (.k (.int .i64 0)), none, [], false⟩,
           ⟨(some 10), .mv (.t 13), none, [], false⟩])
         (.cond (.t 10) (.seq (.reg [
             ⟨(some 2), .mv (.k (.int .i64 3)), none, [], false⟩])
           (.ret))
          (.skip))))))
     (.seq (.seq (.reg [
         ⟨(some 14), .mv (.t 0), none, [], false⟩,
         ⟨(some 15), .lenv false (.t 14), none, [], false⟩,
         ⟨(some 16), .mv (.k (.int .i64 0)), none, [], false⟩])
       (.blk 1 (.loop (.seq (.reg [
            ⟨(some 17), .bin .lss (.t 16) (.t 15), none, [], false⟩])
          (.seq (.cond (.t 17) (.skip)
            (.exit 1))
           (.seq (.blk 2 (.seq (.reg [
                ⟨(some 18), .mv (.t 16), none, [], false⟩,
                ⟨(some 19), .iad 6 (.t 14) (.t 16), none, [], false⟩,
                ⟨(some 20), .ldn 6 (.t 19), none, [], false⟩,
                ⟨(some 4), .new [.int .i64 0, .int .i64 0, .int .i64 0, .int .i64 0, .int .i64 0, .int .i64 0], none, [], false⟩,
                ⟨(some 3), .mv (.t 18), none, [], false⟩,
                ⟨none, .st 6 (.t 4) (.t 20), none, [], false⟩])
              (.seq (.seq (.reg [
                  ⟨(some 21), .fad 0 (.t 4), none, [], false⟩,
                  ⟨(some 22), .fad 0 (.t 21), none, [], false⟩,
                  ⟨(some 23), .ld1 (.t 22), none, [], false⟩,
                  ⟨(some 24), .bin .lss (.t 23) (.k (.int .i64 0)), none, [], false⟩,
                  ⟨(some 25), .mv (.t 24), none, [], false⟩,
                  ⟨(some 26), .fad 0 (.t 4), (some (25, false)), [], false⟩,
                  ⟨(some 27), .fad 0 (.t 26), (some (25, false)), [], false⟩,
                  ⟨(some 28), .ld1 (.t 27), (some (25, false)), [], false⟩,
                  ⟨(some 29), .bin .gtr (.t 28) (.k (.int .i64 200000)), (some (25, false)), [], false⟩,
                  ⟨(some 30), .pick (.t 25) (.k (.bool true)) (.t 29), none, [], false⟩,
                  ⟨(some 31), .mv (.t 30), none, [], false⟩,
                  ⟨(some 32), .mv (.t 3), (some (31, false)), [], false⟩,
                  ⟨(some 33), .bin .gtr (.t 32) (.k (.int .i64 0)), (some (31, false)), [], false⟩,
                  ⟨(some 34), .mv (.t 33), (some (31, false)), [], false⟩,
                  ⟨(some 35), .fad 0 (.t 4), (some (34, true)), [], false⟩,
                  ⟨(some 36), .fad 0 (.t 35), (some (34, true)), [], false⟩,
                  ⟨(some 37), .ld1 (.t 36), (some (34, true)), [], false⟩,
                  ⟨(some 38), .mv (.t 0), (some (34, true)), [], false⟩,
                  ⟨(some 39), .mv (.t 3), (some (34, true)), [], false⟩,
                  ⟨(some 40), .bin .sub (.t 39) (.k (.int .i64 1)), (some (34, true)), [], false⟩,
                  ⟨(some 41), .iad 6 (.t 38) (.t 40), (some (34, true)), [], false⟩,
                  ⟨(some 42), .fad 0 (.t 41), (some (34, true)), [], false⟩,
                  ⟨(some 43), .fad 0 (.t 42), (some (34, true)), [], false⟩,
                  ⟨(some 44), .ld1 (.t 43), (some (34, true)), [], false⟩,
                  ⟨(some 45), .bin .leq (.t 37) (.t 44), (some (34, true)), [], false⟩,
                  ⟨(some 46), .pick (.t 34) (.t 45) (.k (.bool false)), (some (31, false)), [], false⟩,
                  ⟨(some 47), .pick (.t 31) (.k (.bool true)) (.t 46), none, [], false⟩])
                (.cond (.t 47) (.seq (.reg [
                    ⟨(some 2), .mv (.k (.int .i64 12)), none, [], false⟩])
                  (.ret))
                 (.skip)))
               (.seq (.seq (.reg [
                   ⟨(some 48), .fad 0 (.t 4), none, [], false⟩,
                   ⟨(some 49), .fad 1 (.t 48), none, [], false⟩,
                   ⟨(some 50), .ldn 2 (.t 49), none, [], false⟩,
                   ⟨(some 51), .call (.k (.fn 53 [])) [(.t 50)], none, [], false⟩,
                   ⟨(some 5), .mv (.t 51), none, [], false⟩])
                 (.seq (.reg [
                    ⟨(some 52), .mv (.t 5), none, [], false⟩,
                    ⟨(some 53), .bin .neq (.t 52) (.k (.int .i64 0)), none, [], false⟩])
                  (.cond (.t 53) (.seq (.reg [
                      ⟨(some 54), .mv (.t 5), none, [], false⟩,
                      ⟨(some 2), .mv (.t 54), none, [], false⟩])
                    (.ret))
                   (.skip))))
                (.seq (.reg [
                   ⟨(some 55), .fad 0 (.t 4), none, [], false⟩,
                   ⟨(some 56), .fad 3 (.t 55), none, [], false⟩,
                   ⟨(some 57), .ld1 (.t 56), none, [], false⟩,
                   ⟨(some 58), .bin .lss (.t 57) (.k (.int .i64 0)), none, [], false⟩,
                   ⟨(some 59), .mv (.t 58), none, [], false⟩,
                   ⟨(some 60), .fad 0 (.t 4), (some (59, false)), [], false⟩,
                   ⟨(some 61), .fad 3 (.t 60), (some (59, false)), [], false⟩,
                   ⟨(some 62), .ld1 (.t 61), (some (59, false)), [], false⟩,
                   ⟨(some 63), .bin .gtr (.t 62) (.k (.int .i64 60000)), (some (59, false)), [], false⟩,
                   ⟨(some 64), .pick (.t 59) (.k (.bool true)) (.t 63), none, [], false⟩,
                   ⟨(some 65), .mv (.t 64), none, [], false⟩,
                   ⟨(some 66), .fad 4 (.t 4), (some (65, false)), [], false⟩,
                   ⟨(some 67), .ld1 (.t 66), (some (65, false)), [], false⟩,
                   ⟨(some 68), .bin .lss (.t 67) (.k (.int .i64 0)), (some (65, false)), [], false⟩,
                   ⟨(some 69), .pick (.t 65) (.k (.bool true)) (.t 68), none, [], false⟩,
                   ⟨(some 70), .mv (.t 69), none, [], false⟩,
                   ⟨(some 71), .fad 4 (.t 4), (some (70, false)), [], false⟩,
                   ⟨(some 72), .ld1 (.t 71), (some (70, false)), [], false⟩,
                   ⟨(some 73), .bin .gtr (.t 72) (.k (.int .i64 1000000)), (some (70, false)), [], false⟩,
                   ⟨(some 74), .pick (.t 70) (.k (.bool true)) (.t 73), none, [], false⟩,
                   ⟨(some 75), .mv (.t 74), none, [], false⟩,
                   ⟨(some 76), .fad 5 (.t 4), (some (75, false)), [], false⟩,
                   ⟨(some 77), .ld1 (.t 76), (some (75, false)), [], false⟩,
                   ⟨(some 78), .bin .lss (.t 77) (.k (.int .i64 0)), (some (75, false)), [], false⟩,
                   ⟨(some 79), .pick (.t 75) (.k (.bool true)) (.t 78), none, [], false⟩,
                   ⟨(some 80), .mv (.t 79), none, [], false⟩,
                   ⟨(some 81), .fad 5 (.t 4), (some (80, false)), [], false⟩,
                   ⟨(some 82), .ld1 (.t 81), (some (80, false)), [], false⟩,
                   ⟨(some 83), .bin .gtr (.t 82) (.k (.int .i64 60000)), (some (80, false)), [], false⟩,
                   ⟨(some 84), .pick (.t 80) (.k (.bool true)) (.t 83), none, [], false⟩])
                 (.cond (.t 84) (.seq (.reg [
                     ⟨(some 2), .mv (.k (.int .i64 4)), none, [], false⟩])
                   (.ret))
                  (.skip)))))))
            (.reg [
              ⟨(some 85), .bin .add (.t 16) (.k (.int .i64 1)), none, [], false⟩,
              ⟨(some 16), .mv (.t 85), none, [], false⟩])))))))
      (.seq (.reg [
         ⟨(some 2), .mv (.k (.int .i64 0)), none, [], false⟩])
       (.ret))))
/-- skyway/probe.check -/
def c51 : CF where
  np := 2
  nt := 26
  res := [.t 4]
  code := .seq (.reg [
      ⟨(some 2), .box (.t 0), none, [], false⟩,
      ⟨(some 4), .mv (.k (.int .i64 0)), none, [], false⟩])
    (.seq (.seq (.reg [
        ⟨(some 9), .ldn 2 (.t 2), none, [], false⟩,
        ⟨(some 10), .call (.k (.fn 17 [])) [(.t 9)], none, [], false⟩,
        ⟨(some 5), .mv (.t 10), none, [], false⟩])
      (.seq (.reg [
         ⟨(some 11), .mv (.t 5), none, [], false⟩,
         ⟨(some 12), .bin .neq (.t 11) (.k (.int .i64 0)), none, [], false⟩])
       (.cond (.t 12) (.seq (.reg [
           ⟨(some 13), .mv (.t 5), none, [], false⟩,
           ⟨(some 4), .mv (.t 13), none, [], false⟩])
         (.ret))
        (.skip))))
     (.seq (.seq (.reg [
         ⟨(some 14), .mv (.t 1), none, [], false⟩,
         ⟨(some 15), .lenv false (.t 14), none, [], false⟩,
         ⟨(some 16), .mv (.k (.int .i64 0)), none, [], false⟩])
       (.blk 0 (.loop (.seq (.reg [
            ⟨(some 17), .bin .lss (.t 16) (.t 15), none, [], false⟩])
          (.seq (.cond (.t 17) (.skip)
            (.exit 0))
           (.seq (.blk 1 (.seq (.reg [
                ⟨(some 18), .iad 1 (.t 14) (.t 16), none, [], false⟩,
                ⟨(some 19), .ld1 (.t 18), none, [], false⟩,
                ⟨(some 7), .mv (.t 19), none, [], false⟩])
              (.seq (.reg [
                 ⟨(some 20), .mv (.t 7), none, [], false⟩,
                 ⟨(some 21), .call (.k (.fn 18 [])) [(.t 20)], none, [], false⟩,
                 ⟨(some 8), .mv (.t 21), none, [], false⟩])
               (.seq (.reg [
                  ⟨(some 22), .mv (.t 8), none, [], false⟩,
                  ⟨(some 23), .bin .neq (.t 22) (.k (.int .i64 0)), none, [], false⟩])
                (.cond (.t 23) (.seq (.reg [
                    ⟨(some 24), .mv (.t 8), none, [], false⟩,
                    ⟨(some 4), .mv (.t 24), none, [], false⟩])
                  (.ret))
                 (.skip))))))
            (.reg [
              ⟨(some 25), .bin .add (.t 16) (.k (.int .i64 1)), none, [], false⟩,
              ⟨(some 16), .mv (.t 25), none, [], false⟩])))))))
      (.seq (.reg [
         ⟨(some 4), .mv (.k (.int .i64 0)), none, [], false⟩])
       (.ret))))
/-- skyway/probe.common -/
def c90 : CF where
  np := 2
  nt := 34
  res := [.t 4, .t 5]
  code := .seq (.reg [
      ⟨(some 4), .mv (.k (.int .i64 0)), none, [], false⟩,
      ⟨(some 5), .mv (.k (.int .i64 0)), none, [], false⟩])
    (.seq (.reg [
       ⟨(some 6), .mv (.t 0), none, [], false⟩,
       ⟨(some 7), .iad 6 (.t 6) (.k (.int .i64 0)), none, [], false⟩,
       ⟨(some 8), .fad 0 (.t 7), none, [], false⟩,
       ⟨(some 9), .fad 0 (.t 8), none, [], false⟩,
       ⟨(some 10), .ld1 (.t 9), none, [], false⟩,
       ⟨(some 11), .mv (.t 1), none, [], false⟩,
       ⟨(some 12), .iad 6 (.t 11) (.k (.int .i64 0)), none, [], false⟩,
       ⟨(some 13), .fad 0 (.t 12), none, [], false⟩,
       ⟨(some 14), .fad 0 (.t 13), none, [], false⟩,
       ⟨(some 15), .ld1 (.t 14), none, [], false⟩,
       ⟨(some 16), .mnx true (.t 10) [(.t 15)], none, [], false⟩,
       ⟨(some 17), .mv (.t 0), none, [], false⟩,
       ⟨(some 18), .mv (.t 0), none, [], false⟩,
       ⟨(some 19), .lenv false (.t 18), none, [], false⟩,
       ⟨(some 20), .bin .sub (.t 19) (.k (.int .i64 1)), none, [], false⟩,
       ⟨(some 21), .iad 6 (.t 17) (.t 20), none, [], false⟩,
       ⟨(some 22), .fad 0 (.t 21), none, [], false⟩,
       ⟨(some 23), .fad 0 (.t 22), none, [], false⟩,
       ⟨(some 24), .ld1 (.t 23), none, [], false⟩,
       ⟨(some 25), .mv (.t 1), none, [], false⟩,
       ⟨(some 26), .mv (.t 1), none, [], false⟩,
       ⟨(some 27), .lenv false (.t 26), none, [], false⟩,
       ⟨(some 28), .bin .sub (.t 27) (.k (.int .i64 1)), none, [], false⟩,
       ⟨(some 29), .iad 6 (.t 25) (.t 28), none, [], false⟩,
       ⟨(some 30), .fad 0 (.t 29), none, [], false⟩,
       ⟨(some 31), .fad 0 (.t 30), none, [], false⟩,
       ⟨(some 32), .ld1 (.t 31), none, [], false⟩,
       ⟨(some 33), .mnx false (.t 24) [(.t 32)], none, [], false⟩,
       ⟨(some 4), .mv (.t 16), none, [], false⟩,
       ⟨(some 5), .mv (.t 33), none, [], false⟩])
     (.ret))
/-- skyway/num.DivDown -/
def c121 : CF where
  np := 2
  nt := 34
  res := [.t 4, .t 5]
  code := .seq (.reg [
      ⟨(some 4), .mv (.k (.int .i64 0)), none, [], false⟩,
      ⟨(some 5), .mv (.k (.int .i64 0)), none, [], false⟩])
    (.seq (.blk 0 (.seq (.reg [
         ⟨(some 8), .mv (.t 1), none, [], false⟩,
         ⟨(some 9), .bin .eql (.t 8) (.k (.int .i64 0)), none, [], false⟩,
         ⟨(some 7), .mv (.t 9), none, [], false⟩])
       (.cond (.t 7) (.seq (.reg [
           ⟨(some 4), .mv (.k (.int .i64 0)), none, [], false⟩,
           ⟨(some 5), .mv (.k (.int .i64 10)), none, [], false⟩])
         (.ret))
        (.seq (.reg [
           ⟨(some 11), .mv (.t 0), none, [], false⟩,
           ⟨(some 12), .bin .eql (.t 11) (.k (.int .i64 (-9223372036854775808))), none, [], false⟩,
           ⟨(some 13), .mv (.t 12), none, [], false⟩,
           ⟨(some 14), .mv (.t 1), (some (13, true)), [], false⟩,
           ⟨(some 15), .bin .eql (.t 14) (.k (.int .i64 (-1))), (some (13, true)), [], false⟩,
           ⟨(some 16), .pick (.t 13) (.t 15) (.k (.bool false)), none, [], false⟩,
           ⟨(some 10), .mv (.t 16), none, [], false⟩])
         (.cond (.t 10) (.seq (.reg [
             ⟨(some 4), .mv (.k (.int .i64 0)), none, [], false⟩,
             ⟨(some 5), .mv (.k (.int .i64 2)), none, [], false⟩])
           (.ret))
          (.skip))))))
     (.seq (.reg [
        ⟨(some 17), .mv (.t 0), none, [], false⟩,
        ⟨(some 18), .mv (.t 1), none, [], false⟩,
        ⟨(some 19), .bin .quo (.t 17) (.t 18), none, [], false⟩,
        ⟨(some 6), .mv (.t 19), none, [], false⟩])
      (.seq (.seq (.reg [
          ⟨(some 20), .mv (.t 0), none, [], false⟩,
          ⟨(some 21), .mv (.t 1), none, [], false⟩,
          ⟨(some 22), .bin .rem (.t 20) (.t 21), none, [], false⟩,
          ⟨(some 23), .bin .neq (.t 22) (.k (.int .i64 0)), none, [], false⟩,
          ⟨(some 24), .mv (.t 23), none, [], false⟩,
          ⟨(some 25), .mv (.t 0), (some (24, true)), [], false⟩,
          ⟨(some 26), .bin .lss (.t 25) (.k (.int .i64 0)), (some (24, true)), [], false⟩,
          ⟨(some 27), .mv (.t 1), (some (24, true)), [], false⟩,
          ⟨(some 28), .bin .lss (.t 27) (.k (.int .i64 0)), (some (24, true)), [], false⟩,
          ⟨(some 29), .eqs true none (.t 26) (.t 28), (some (24, true)), [], false⟩,
          ⟨(some 30), .pick (.t 24) (.t 29) (.k (.bool false)), none, [], false⟩])
        (.cond (.t 30) (.reg [
           ⟨(some 31), .mv (.t 6), none, [], false⟩,
           ⟨(some 32), .bin .sub (.t 31) (.k (.int .i64 1)), none, [], false⟩,
           ⟨(some 6), .mv (.t 32), none, [], false⟩])
         (.skip)))
       (.seq (.reg [
          ⟨(some 33), .mv (.t 6), none, [], false⟩,
          ⟨(some 4), .mv (.t 33), none, [], false⟩,
          ⟨(some 5), .mv (.k (.int .i64 0)), none, [], false⟩])
        (.ret)))))
/-- skyway/plane.Toward -/
def c101 : CF where
  np := 4
  nt := 74
  res := [.cn 2 8, .t 9]
  code := .seq (.reg [
      ⟨(some 4), .box (.t 0), none, [], false⟩,
      ⟨(some 5), .box (.t 1), none, [], false⟩,
      ⟨(some 8), .new [.int .i64 0, .int .i64 0], none, [], false⟩,
      ⟨(some 9), .mv (.k (.int .i64 0)), none, [], false⟩])
    (.seq (.blk 0 (.seq (.reg [
         ⟨(some 15), .mv (.t 3), none, [], false⟩,
         ⟨(some 16), .bin .leq (.t 15) (.k (.int .i64 0)), none, [], false⟩,
         ⟨(some 14), .mv (.t 16), none, [], false⟩])
       (.cond (.t 14) (.seq (.reg [
           ⟨(some 17), .mk [.int .i64 0, .int .i64 0] [], none, [], false⟩,
           ⟨none, .st 2 (.t 8) (.t 17), none, [], false⟩,
           ⟨(some 9), .mv (.k (.int .i64 10)), none, [], false⟩])
         (.ret))
        (.seq (.reg [
           ⟨(some 19), .mv (.t 3), none, [], false⟩,
           ⟨(some 20), .bin .gtr (.t 19) (.k (.int .i64 200000)), none, [], false⟩,
           ⟨(some 21), .mv (.t 20), none, [], false⟩,
           ⟨(some 22), .mv (.t 2), (some (21, false)), [], false⟩,
           ⟨(some 23), .bin .lss (.t 22) (.k (.int .i64 0)), (some (21, false)), [], false⟩,
           ⟨(some 24), .pick (.t 21) (.k (.bool true)) (.t 23), none, [], false⟩,
           ⟨(some 25), .mv (.t 24), none, [], false⟩,
           ⟨(some 26), .mv (.t 2), (some (25, false)), [], false⟩,
           ⟨(some 27), .mv (.t 3), (some (25, false)), [], false⟩,
           ⟨(some 28), .bin .gtr (.t 26) (.t 27), (some (25, false)), [], false⟩,
           ⟨(some 29), .pick (.t 25) (.k (.bool true)) (.t 28), none, [], false⟩,
           ⟨(some 30), .mv (.t 29), none, [], false⟩,
           ⟨(some 31), .ldn 2 (.t 4), (some (30, false)), [], false⟩,
           ⟨(some 32), .call (.k (.fn 53 [])) [(.t 31)], (some (30, false)), [], false⟩,
           ⟨(some 33), .bin .neq (.t 32) (.k (.int .i64 0)), (some (30, false)), [], false⟩,
           ⟨(some 34), .pick (.t 30) (.k (.bool true)) (.t 33), none, [], false⟩,
           ⟨(some 35), .mv (.t 34), none, [], false⟩,
           ⟨(some 36), .ldn 2 (.t 5), (some (35, false)), [], false⟩,
           ⟨(some 37), .call (.k (.fn 53 [])) [(.t 36)], (some (35, false)), [], false⟩,
           ⟨(some 38), .bin .neq (.t 37) (.k (.int .i64 0)), (some (35, false)), [], false⟩,
           ⟨(some 39), .pick (.t 35) (.k (.bool true)) (.t 38), none, [], false⟩,
           ⟨(some 18), .mv (.t 39), none, [], false⟩])
         (.cond (.t 18) (.seq (.reg [
             ⟨(some 40), .mk [.int .i64 0, .int .i64 0] [], none, [], false⟩,
             ⟨none, .st 2 (.t 8) (.t 40), none, [], false⟩,
             ⟨(some 9), .mv (.k (.int .i64 4)), none, [], false⟩])
           (.ret))
          (.skip))))))
     (.seq (.reg [
        ⟨(some 42), .fad 0 (.t 5), none, [], false⟩,
        ⟨(some 43), .ld1 (.t 42), none, [], false⟩,
        ⟨(some 44), .fad 0 (.t 4), none, [], false⟩,
        ⟨(some 45), .ld1 (.t 44), none, [], false⟩,
        ⟨(some 46), .bin .sub (.t 43) (.t 45), none, [], false⟩,
        ⟨(some 47), .mv (.t 2), none, [], false⟩,
        ⟨(some 48), .bin .mul (.t 46) (.t 47), none, [], false⟩,
        ⟨(some 49), .mv (.t 3), none, [], false⟩,
        ⟨(some 50), .call (.k (.fn 121 [])) [(.t 48), (.t 49)], none, [], false⟩,
        ⟨(some 41), .mv (.t 50), none, [], false⟩,
        ⟨(some 51), .ext (.t 41) 0, none, [], false⟩,
        ⟨(some 52), .ext (.t 41) 1, none, [], false⟩,
        ⟨(some 10), .mv (.t 51), none, [], false⟩,
        ⟨(some 11), .mv (.t 52), none, [], false⟩])
      (.seq (.reg [
         ⟨(some 54), .fad 1 (.t 5), none, [], false⟩,
         ⟨(some 55), .ld1 (.t 54), none, [], false⟩,
         ⟨(some 56), .fad 1 (.t 4), none, [], false⟩,
         ⟨(some 57), .ld1 (.t 56), none, [], false⟩,
         ⟨(some 58), .bin .sub (.t 55) (.t 57), none, [], false⟩,
         ⟨(some 59), .mv (.t 2), none, [], false⟩,
         ⟨(some 60), .bin .mul (.t 58) (.t 59), none, [], false⟩,
         ⟨(some 61), .mv (.t 3), none, [], false⟩,
         ⟨(some 62), .call (.k (.fn 121 [])) [(.t 60), (.t 61)], none, [], false⟩,
         ⟨(some 53), .mv (.t 62), none, [], false⟩,
         ⟨(some 63), .ext (.t 53) 0, none, [], false⟩,
         ⟨(some 64), .ext (.t 53) 1, none, [], false⟩,
         ⟨(some 12), .mv (.t 63), none, [], false⟩,
         ⟨(some 13), .mv (.t 64), none, [], false⟩])
       (.seq (.reg [
          ⟨(some 65), .fad 0 (.t 4), none, [], false⟩,
          ⟨(some 66), .ld1 (.t 65), none, [], false⟩,
          ⟨(some 67), .mv (.t 10), none, [], false⟩,
          ⟨(some 68), .bin .add (.t 66) (.t 67), none, [], false⟩,
          ⟨(some 69), .fad 1 (.t 4), none, [], false⟩,
          ⟨(some 70), .ld1 (.t 69), none, [], false⟩,
          ⟨(some 71), .mv (.t 12), none, [], false⟩,
          ⟨(some 72), .bin .add (.t 70) (.t 71), none, [], false⟩,
          ⟨(some 73), .mk [.int .i64 0, .int .i64 0] [(0, 1, (.t 68)), (1, 1, (.t 72))], none, [], false⟩,
          ⟨none, .st 2 (.t 8) (.t 73), none, [], false⟩,
          ⟨(some 9), .mv (.k (.int .i64 0)), none, [], false⟩])
        (.ret)))))
/-- skyway/tube.between -/
def c102 : CF where
  np := 4
  nt := 24
  res := [.t 8]
  code := .seq (.reg [
      ⟨(some 8), .mv (.k (.int .i64 0)), none, [], false⟩])
    (.seq (.reg [
       ⟨(some 12), .mv (.t 1), none, [], false⟩,
       ⟨(some 13), .mv (.t 0), none, [], false⟩,
       ⟨(some 14), .bin .sub (.t 12) (.t 13), none, [], false⟩,
       ⟨(some 15), .mv (.t 2), none, [], false⟩,
       ⟨(some 16), .bin .mul (.t 14) (.t 15), none, [], false⟩,
       ⟨(some 17), .mv (.t 3), none, [], false⟩,
       ⟨(some 18), .call (.k (.fn 121 [])) [(.t 16), (.t 17)], none, [], false⟩,
       ⟨(some 11), .mv (.t 18), none, [], false⟩,
       ⟨(some 19), .ext (.t 11) 0, none, [], false⟩,
       ⟨(some 20), .ext (.t 11) 1, none, [], false⟩,
       ⟨(some 9), .mv (.t 19), none, [], false⟩,
       ⟨(some 10), .mv (.t 20), none, [], false⟩])
     (.seq (.reg [
        ⟨(some 21), .mv (.t 0), none, [], false⟩,
        ⟨(some 22), .mv (.t 9), none, [], false⟩,
        ⟨(some 23), .bin .add (.t 21) (.t 22), none, [], false⟩,
        ⟨(some 8), .mv (.t 23), none, [], false⟩])
      (.ret)))
/-- skyway/num.DivUp -/
def c122 : CF where
  np := 2
  nt := 26
  res := [.t 4, .t 5]
  code := .seq (.reg [
      ⟨(some 4), .mv (.k (.int .i64 0)), none, [], false⟩,
      ⟨(some 5), .mv (.k (.int .i64 0)), none, [], false⟩])
    (.seq (.reg [
       ⟨(some 9), .mv (.t 0), none, [], false⟩,
       ⟨(some 10), .mv (.t 1), none, [], false⟩,
       ⟨(some 11), .call (.k (.fn 121 [])) [(.t 9), (.t 10)], none, [], false⟩,
       ⟨(some 8), .mv (.t 11), none, [], false⟩,
       ⟨(some 12), .ext (.t 8) 0, none, [], false⟩,
       ⟨(some 13), .ext (.t 8) 1, none, [], false⟩,
       ⟨(some 6), .mv (.t 12), none, [], false⟩,
       ⟨(some 7), .mv (.t 13), none, [], false⟩])
     (.seq (.seq (.reg [
         ⟨(some 14), .mv (.t 7), none, [], false⟩,
         ⟨(some 15), .bin .eql (.t 14) (.k (.int .i64 0)), none, [], false⟩,
         ⟨(some 16), .mv (.t 15), none, [], false⟩,
         ⟨(some 17), .mv (.t 0), (some (16, true)), [], false⟩,
         ⟨(some 18), .mv (.t 1), (some (16, true)), [], false⟩,
         ⟨(some 19), .bin .rem (.t 17) (.t 18), (some (16, true)), [], false⟩,
         ⟨(some 20), .bin .neq (.t 19) (.k (.int .i64 0)), (some (16, true)), [], false⟩,
         ⟨(some 21), .pick (.t 16) (.t 20) (.k (.bool false)), none, [], false⟩])
       (.cond (.t 21) (.reg [
          ⟨(some 22), .mv (.t 6), none, [], false⟩,
          ⟨(some 23), .bin .add (.t 22) (.k (.int .i64 1)), none, [], false⟩,
          ⟨(some 6), .mv (.t 23), none, [], false⟩])
        (.skip)))
      (.seq (.reg [
         ⟨(some 24), .mv (.t 6), none, [], false⟩,
         ⟨(some 25), .mv (.t 7), none, [], false⟩,
         ⟨(some 4), .mv (.t 24), none, [], false⟩,
         ⟨(some 5), .mv (.t 25), none, [], false⟩])
       (.ret))))
/-- skyway/tube.above -/
def c103 : CF where
  np := 4
  nt := 24
  res := [.t 8]
  code := .seq (.reg [
      ⟨(some 8), .mv (.k (.int .i64 0)), none, [], false⟩])
    (.seq (.reg [
       ⟨(some 12), .mv (.t 1), none, [], false⟩,
       ⟨(some 13), .mv (.t 0), none, [], false⟩,
       ⟨(some 14), .bin .sub (.t 12) (.t 13), none, [], false⟩,
       ⟨(some 15), .mv (.t 2), none, [], false⟩,
       ⟨(some 16), .bin .mul (.t 14) (.t 15), none, [], false⟩,
       ⟨(some 17), .mv (.t 3), none, [], false⟩,
       ⟨(some 18), .call (.k (.fn 122 [])) [(.t 16), (.t 17)], none, [], false⟩,
       ⟨(some 11), .mv (.t 18), none, [], false⟩,
       ⟨(some 19), .ext (.t 11) 0, none, [], false⟩,
       ⟨(some 20), .ext (.t 11) 1, none, [], false⟩,
       ⟨(some 9), .mv (.t 19), none, [], false⟩,
       ⟨(some 10), .mv (.t 20), none, [], false⟩])
     (.seq (.reg [
        ⟨(some 21), .mv (.t 0), none, [], false⟩,
        ⟨(some 22), .mv (.t 9), none, [], false⟩,
        ⟨(some 23), .bin .add (.t 21) (.t 22), none, [], false⟩,
        ⟨(some 8), .mv (.t 23), none, [], false⟩])
      (.ret)))
/-- skyway/tube.at -/
def c66 : CF where
  np := 2
  nt := 117
  res := [.cn 6 4, .t 5]
  code := .seq (.reg [
      ⟨(some 4), .new [.int .i64 0, .int .i64 0, .int .i64 0, .int .i64 0, .int .i64 0, .int .i64 0], none, [], false⟩,
      ⟨(some 5), .mv (.k (.int .i64 0)), none, [], false⟩])
    (.seq (.seq (.reg [
        ⟨(some 13), .mv (.t 1), none, [], false⟩,
        ⟨(some 14), .mv (.t 0), none, [], false⟩,
        ⟨(some 15), .iad 6 (.t 14) (.k (.int .i64 0)), none, [], false⟩,
        ⟨(some 16), .fad 0 (.t 15), none, [], false⟩,
        ⟨(some 17), .fad 0 (.t 16), none, [], false⟩,
        ⟨(some 18), .ld1 (.t 17), none, [], false⟩,
        ⟨(some 19), .bin .lss (.t 13) (.t 18), none, [], false⟩,
        ⟨(some 20), .mv (.t 19), none, [], false⟩,
        ⟨(some 21), .mv (.t 1), (some (20, false)), [], false⟩,
        ⟨(some 22), .mv (.t 0), (some (20, false)), [], false⟩,
        ⟨(some 23), .mv (.t 0), (some (20, false)), [], false⟩,
        ⟨(some 24), .lenv false (.t 23), (some (20, false)), [], false⟩,
        ⟨(some 25), .bin .sub (.t 24) (.k (.int .i64 1)), (some (20, false)), [], false⟩,
        ⟨(some 26), .iad 6 (.t 22) (.t 25), (some (20, false)), [], false⟩,
        ⟨(some 27), .fad 0 (.t 26), (some (20, false)), [], false⟩,
        ⟨(some 28), .fad 0 (.t 27), (some (20, false)), [], false⟩,
        ⟨(some 29), .ld1 (.t 28), (some (20, false)), [], false⟩,
        ⟨(some 30), .bin .gtr (.t 21) (.t 29), (some (20, false)), [], false⟩,
        ⟨(some 31), .pick (.t 20) (.k (.bool true)) (.t 30), none, [], false⟩])
      (.cond (.t 31) (.seq (.reg [
          ⟨(some 32), .mk [.int .i64 0, .int .i64 0, .int .i64 0, .int .i64 0, .int .i64 0, .int .i64 0] [], none, [], false⟩,
          ⟨none, .st 6 (.t 4) (.t 32), none, [], false⟩,
          ⟨(some 5), .mv (.k (.int .i64 12)), none, [], false⟩])
        (.ret))
       (.skip)))
     (.seq (.reg [
        ⟨(some 6), .mv (.k (.int .i64 0)), none, [], false⟩])
      (.seq (.blk 0 (.loop (.seq (.seq (.reg [
             ⟨(some 33), .mv (.t 6), none, [], false⟩,
             ⟨(some 34), .bin .add (.t 33) (.k (.int .i64 1)), none, [], false⟩,
             ⟨(some 35), .mv (.t 0), none, [], false⟩,
             ⟨(some 36), .lenv false (.t 35), none, [], false⟩,
             ⟨(some 37), .bin .lss (.t 34) (.t 36), none, [], false⟩,
             ⟨(some 38), .mv (.t 37), none, [], false⟩,
             ⟨(some 39), .mv (.t 0), (some (38, true)), [], false⟩,
             ⟨(some 40), .mv (.t 6), (some (38, true)), [], false⟩,
             ⟨(some 41), .bin .add (.t 40) (.k (.int .i64 1)), (some (38, true)), [], false⟩,
             ⟨(some 42), .iad 6 (.t 39) (.t 41), (some (38, true)), [], false⟩,
             ⟨(some 43), .fad 0 (.t 42), (some (38, true)), [], false⟩,
             ⟨(some 44), .fad 0 (.t 43), (some (38, true)), [], false⟩,
             ⟨(some 45), .ld1 (.t 44), (some (38, true)), [], false⟩,
             ⟨(some 46), .mv (.t 1), (some (38, true)), [], false⟩,
             ⟨(some 47), .bin .leq (.t 45) (.t 46), (some (38, true)), [], false⟩,
             ⟨(some 48), .pick (.t 38) (.t 47) (.k (.bool false)), none, [], false⟩])
           (.cond (.t 48) (.skip)
            (.exit 0)))
          (.blk 1 (.reg [
             ⟨(some 49), .mv (.t 6), none, [], false⟩,
             ⟨(some 50), .bin .add (.t 49) (.k (.int .i64 1)), none, [], false⟩,
             ⟨(some 6), .mv (.t 50), none, [], false⟩])))))
       (.seq (.reg [
          ⟨(some 51), .mv (.t 0), none, [], false⟩,
          ⟨(some 52), .mv (.t 6), none, [], false⟩,
          ⟨(some 53), .iad 6 (.t 51) (.t 52), none, [], false⟩,
          ⟨(some 54), .ldn 6 (.t 53), none, [], false⟩,
          ⟨(some 7), .new [.int .i64 0, .int .i64 0, .int .i64 0, .int .i64 0, .int .i64 0, .int .i64 0], none, [], false⟩,
          ⟨none, .st 6 (.t 7) (.t 54), none, [], false⟩])
        (.seq (.seq (.reg [
            ⟨(some 55), .fad 0 (.t 7), none, [], false⟩,
            ⟨(some 56), .fad 0 (.t 55), none, [], false⟩,
            ⟨(some 57), .ld1 (.t 56), none, [], false⟩,
            ⟨(some 58), .mv (.t 1), none, [], false⟩,
            ⟨(some 59), .bin .eql (.t 57) (.t 58), none, [], false⟩])
          (.cond (.t 59) (.seq (.reg [
              ⟨(some 60), .ldn 6 (.t 7), none, [], false⟩,
              ⟨none, .st 6 (.t 4) (.t 60), none, [], false⟩,
              ⟨(some 5), .mv (.k (.int .i64 0)), none, [], false⟩])
            (.ret))
           (.skip)))
         (.seq (.reg [
            ⟨(some 61), .mv (.t 0), none, [], false⟩,
            ⟨(some 62), .mv (.t 6), none, [], false⟩,
            ⟨(some 63), .bin .add (.t 62) (.k (.int .i64 1)), none, [], false⟩,
            ⟨(some 64), .iad 6 (.t 61) (.t 63), none, [], false⟩,
            ⟨(some 65), .ldn 6 (.t 64), none, [], false⟩,
            ⟨(some 8), .new [.int .i64 0, .int .i64 0, .int .i64 0, .int .i64 0, .int .i64 0, .int .i64 0], none, [], false⟩,
            ⟨none, .st 6 (.t 8) (.t 65), none, [], false⟩])
          (.seq (.reg [
             ⟨(some 66), .mv (.t 1), none, [], false⟩,
             ⟨(some 67), .fad 0 (.t 7), none, [], false⟩,
             ⟨(some 68), .fad 0 (.t 67), none, [], false⟩,
             ⟨(some 69), .ld1 (.t 68), none, [], false⟩,
             ⟨(some 70), .bin .sub (.t 66) (.t 69), none, [], false⟩,
             ⟨(some 71), .fad 0 (.t 8), none, [], false⟩,
             ⟨(some 72), .fad 0 (.t 71), none, [], false⟩,
             ⟨(some 73), .ld1 (.t 72), none, [], false⟩,
             ⟨(some 74), .fad 0 (.t 7), none, [], false⟩,
             ⟨(some 75), .fad 0 (.t 74), none, [], false⟩,
             ⟨(some 76), .ld1 (.t 75), none, [], false⟩,
             ⟨(some 77), .bin .sub (.t 73) (.t 76), none, [], false⟩,
             ⟨(some 9), .mv (.t 70), none, [], false⟩,
             ⟨(some 10), .mv (.t 77), none, [], false⟩])
           (.seq (.reg [
              ⟨(some 79), .fad 0 (.t 7), none, [], false⟩,
              ⟨(some 80), .fad 1 (.t 79), none, [], false⟩,
              ⟨(some 81), .ldn 2 (.t 80), none, [], false⟩,
              ⟨(some 82), .fad 0 (.t 8), none, [], false⟩,
              ⟨(some 83), .fad 1 (.t 82), none, [], false⟩,
              ⟨(some 84), .ldn 2 (.t 83), none, [], false⟩,
              ⟨(some 85), .mv (.t 9), none, [], false⟩,
              ⟨(some 86), .mv (.t 10), none, [], false⟩,
              ⟨(some 87), .call (.k (.fn 101 [])) [(.t 81), (.t 84), (.t 85), (.t 86)], none, [], false⟩,
              ⟨(some 78), .mv (.t 87), none, [], false⟩,
              ⟨(some 88), .ext (.t 78) 0, none, [], false⟩,
              ⟨(some 89), .ext (.t 78) 1, none, [], false⟩,
              ⟨(some 11), .new [.int .i64 0, .int .i64 0], none, [], false⟩,
              ⟨none, .st 2 (.t 11) (.t 88), none, [], false⟩,
              ⟨(some 12), .mv (.t 89), none, [], false⟩])
            (.seq (.reg [
               ⟨(some 90), .mv (.t 1), none, [], false⟩,
               ⟨(some 91), .ldn 2 (.t 11), none, [], false⟩,
               ⟨(some 92), .fad 0 (.t 7), none, [], false⟩,
               ⟨(some 93), .fad 3 (.t 92), none, [], false⟩,
               ⟨(some 94), .ld1 (.t 93), none, [], false⟩,
               ⟨(some 95), .fad 0 (.t 8), none, [], false⟩,
               ⟨(some 96), .fad 3 (.t 95), none, [], false⟩,
               ⟨(some 97), .ld1 (.t 96), none, [], false⟩,
               ⟨(some 98), .mv (.t 9), none, [], false⟩,
               ⟨(some 99), .mv (.t 10), none, [], false⟩,
               ⟨(some 102), .fad 4 (.t 7), none, [], false⟩,
               ⟨(some 103), .ld1 (.t 102), none, [], false⟩,
               ⟨(some 104), .fad 4 (.t 8), none, [], false⟩,
               ⟨(some 105), .ld1 (.t 104), none, [], false⟩,
               ⟨(some 106), .mv (.t 9), none, [], false⟩,
               ⟨(some 107), .mv (.t 10), none, [], false⟩,
               ⟨(some 109), .fad 5 (.t 7), none, [], false⟩,
               ⟨(some 110), .ld1 (.t 109), none, [], false⟩,
               ⟨(some 111), .fad 5 (.t 8), none, [], false⟩,
               ⟨(some 112), .ld1 (.t 111), none, [], false⟩,
               ⟨(some 113), .mv (.t 9), none, [], false⟩,
               ⟨(some 114), .mv (.t 10), none, [], false⟩,
               ⟨(some 100), .call (.k (.fn 102 [])) [(.t 94), (.t 97), (.t 98), (.t 99)], none, [], true⟩,
               ⟨(some 101), .mk [.int .i64 0, .int .i64 0, .int .i64 0, .int .i64 0] [(0, 1, (.t 90)), (1, 2, (.t 91)), (3, 1, (.t 100))], none, [], false⟩,
               ⟨(some 108), .call (.k (.fn 103 [])) [(.t 103), (.t 105), (.t 106), (.t 107)], none, [], true⟩,
               ⟨(some 115), .call (.k (.fn 103 [])) [(.t 110), (.t 112), (.t 113), (.t 114)], none, [], true⟩,
               ⟨(some 116), .mk [.int .i64 0, .int .i64 0, .int .i64 0, .int .i64 0, .int .i64 0, .int .i64 0] [(0, 4, (.t 101)), (4, 1, (.t 108)), (5, 1, (.t 115))], none, [], false⟩,
               ⟨none, .st 6 (.t 4) (.t 116), none, [], false⟩,
               ⟨(some 5), .mv (.k (.int .i64 0)), none, [], false⟩])
             (.ret))))))))))
/-- skyway/tube.Point -/
def c91 : CF where
  np := 2
  nt := 14
  res := [.cn 6 4]
  code := .seq (.reg [
      ⟨(some 4), .new [.int .i64 0, .int .i64 0, .int .i64 0, .int .i64 0, .int .i64 0, .int .i64 0], none, [], false⟩])
    (.seq (.reg [
       ⟨(some 8), .mv (.t 0), none, [], false⟩,
       ⟨(some 9), .mv (.t 1), none, [], false⟩,
       ⟨(some 10), .call (.k (.fn 66 [])) [(.t 8), (.t 9)], none, [], false⟩,
       ⟨(some 7), .mv (.t 10), none, [], false⟩,
       ⟨(some 11), .ext (.t 7) 0, none, [], false⟩,
       ⟨(some 12), .ext (.t 7) 1, none, [], false⟩,
       ⟨(some 5), .new [.int .i64 0, .int .i64 0, .int .i64 0, .int .i64 0, .int .i64 0, .int .i64 0], none, [], false⟩,
       ⟨none, .st 6 (.t 5) (.t 11), none, [], false⟩,
       ⟨(some 6), .mv (.t 12), none, [], false⟩])
     (.seq (.reg [
        ⟨(some 13), .ldn 6 (.t 5), none, [], false⟩,
        ⟨none, .st 6 (.t 4) (.t 13), none, [], false⟩])
      (.ret)))
/-- skyway/plane.Sub -/
def c172 : CF where
  np := 2
  nt := 16
  res := [.cn 2 4]
  code := .seq (.reg [
      ⟨(some 2), .box (.t 0), none, [], false⟩,
      ⟨(some 3), .box (.t 1), none, [], false⟩,
      ⟨(some 4), .new [.int .i64 0, .int .i64 0], none, [], false⟩])
    (.seq (.reg [
       ⟨(some 5), .fad 0 (.t 2), none, [], false⟩,
       ⟨(some 6), .ld1 (.t 5), none, [], false⟩,
       ⟨(some 7), .fad 0 (.t 3), none, [], false⟩,
       ⟨(some 8), .ld1 (.t 7), none, [], false⟩,
       ⟨(some 9), .bin .sub (.t 6) (.t 8), none, [], false⟩,
       ⟨(some 10), .fad 1 (.t 2), none, [], false⟩,
       ⟨(some 11), .ld1 (.t 10), none, [], false⟩,
       ⟨(some 12), .fad 1 (.t 3), none, [], false⟩,
       ⟨(some 13), .ld1 (.t 12), none, [], false⟩,
       ⟨(some 14), .bin .sub (.t 11) (.t 13), none, [], false⟩,
       ⟨(some 15), .mk [.int .i64 0, .int .i64 0] [(0, 1, (.t 9)), (1, 1, (.t 14))], none, [], false⟩,
       ⟨none, .st 2 (.t 4) (.t 15), none, [], false⟩])
     (.ret))
/-- skyway/plane.Dot -/
def c173 : CF where
  np := 2
  nt := 16
  res := [.t 4]
  code := .seq (.reg [
      ⟨(some 2), .box (.t 0), none, [], false⟩,
      ⟨(some 3), .box (.t 1), none, [], false⟩,
      ⟨(some 4), .mv (.k (.int .i64 0)), none, [], false⟩])
    (.seq (.reg [
       ⟨(some 5), .fad 0 (.t 2), none, [], false⟩,
       ⟨(some 6), .ld1 (.t 5), none, [], false⟩,
       ⟨(some 7), .fad 0 (.t 3), none, [], false⟩,
       ⟨(some 8), .ld1 (.t 7), none, [], false⟩,
       ⟨(some 9), .bin .mul (.t 6) (.t 8), none, [], false⟩,
       ⟨(some 10), .fad 1 (.t 2), none, [], false⟩,
       ⟨(some 11), .ld1 (.t 10), none, [], false⟩,
       ⟨(some 12), .fad 1 (.t 3), none, [], false⟩,
       ⟨(some 13), .ld1 (.t 12), none, [], false⟩,
       ⟨(some 14), .bin .mul (.t 11) (.t 13), none, [], false⟩,
       ⟨(some 15), .bin .add (.t 9) (.t 14), none, [], false⟩,
       ⟨(some 4), .mv (.t 15), none, [], false⟩])
     (.ret))
/-- skyway/plane.Square -/
def c164 : CF where
  np := 2
  nt := 12
  res := [.t 4]
  code := .seq (.reg [
      ⟨(some 2), .box (.t 0), none, [], false⟩,
      ⟨(some 3), .box (.t 1), none, [], false⟩,
      ⟨(some 4), .mv (.k (.int .i64 0)), none, [], false⟩])
    (.seq (.reg [
       ⟨(some 6), .ldn 2 (.t 2), none, [], false⟩,
       ⟨(some 7), .ldn 2 (.t 3), none, [], false⟩,
       ⟨(some 8), .call (.k (.fn 172 [])) [(.t 6), (.t 7)], none, [], false⟩,
       ⟨(some 5), .new [.int .i64 0, .int .i64 0], none, [], false⟩,
       ⟨none, .st 2 (.t 5) (.t 8), none, [], false⟩])
     (.seq (.reg [
        ⟨(some 9), .ldn 2 (.t 5), none, [], false⟩,
        ⟨(some 10), .ldn 2 (.t 5), none, [], false⟩,
        ⟨(some 11), .call (.k (.fn 173 [])) [(.t 9), (.t 10)], none, [], false⟩,
        ⟨(some 4), .mv (.t 11), none, [], false⟩])
      (.ret)))
/-- math.Sqrt -/
def c174 : CF where
  np := 1
  nt := 5
  res := [.t 2]
  code := .seq (.reg [
      ⟨(some 2), .mv (.k (.flt .f64 0)), none, [], false⟩])
    (.seq (.reg [
       ⟨(some 3), .mv (.t 0), none, [], false⟩,
       ⟨(some 4), .xf 0 (.t 3), none, [], false⟩,
       ⟨(some 2), .mv (.t 4), none, [], false⟩])
     (.ret))
/-- skyway/num.Root -/
def c165 : CF where
  np := 1
  nt := 27
  res := [.t 2]
  code := .seq (.reg [
      ⟨(some 2), .mv (.k (.int .i64 0)), none, [], false⟩])
    (.seq (.seq (.reg [
        ⟨(some 4), .mv (.t 0), none, [], false⟩,
        ⟨(some 5), .bin .leq (.t 4) (.k (.int .i64 0)), none, [], false⟩])
      (.cond (.t 5) (.seq (.reg [
          ⟨(some 2), .mv (.k (.int .i64 0)), none, [], false⟩])
        (.ret))
       (.skip)))
     (.seq (.reg [
        ⟨(some 6), .mv (.t 0), none, [], false⟩,
        ⟨(some 7), .cvf .f64 (.t 6), none, [], false⟩,
        ⟨(some 8), .call (.k (.fn 174 [])) [(.t 7)], none, [], false⟩,
        ⟨(some 9), .cfi .i64 (.t 8), none, [], false⟩,
        ⟨(some 3), .mv (.t 9), none, [], false⟩])
      (.seq (.blk 0 (.loop (.seq (.seq (.reg [
             ⟨(some 10), .mv (.t 3), none, [], false⟩,
             ⟨(some 11), .mv (.t 0), none, [], false⟩,
             ⟨(some 12), .mv (.t 3), none, [], false⟩,
             ⟨(some 13), .bin .quo (.t 11) (.t 12), none, [], false⟩,
             ⟨(some 14), .bin .gtr (.t 10) (.t 13), none, [], false⟩])
           (.cond (.t 14) (.skip)
            (.exit 0)))
          (.blk 1 (.reg [
             ⟨(some 15), .mv (.t 3), none, [], false⟩,
             ⟨(some 16), .bin .sub (.t 15) (.k (.int .i64 1)), none, [], false⟩,
             ⟨(some 3), .mv (.t 16), none, [], false⟩])))))
       (.seq (.blk 2 (.loop (.seq (.seq (.reg [
              ⟨(some 17), .mv (.t 3), none, [], false⟩,
              ⟨(some 18), .bin .add (.t 17) (.k (.int .i64 1)), none, [], false⟩,
              ⟨(some 19), .mv (.t 0), none, [], false⟩,
              ⟨(some 20), .mv (.t 3), none, [], false⟩,
              ⟨(some 21), .bin .add (.t 20) (.k (.int .i64 1)), none, [], false⟩,
              ⟨(some 22), .bin .quo (.t 19) (.t 21), none, [], false⟩,
              ⟨(some 23), .bin .leq (.t 18) (.t 22), none, [], false⟩])
            (.cond (.t 23) (.skip)
             (.exit 2)))
           (.blk 3 (.reg [
              ⟨(some 24), .mv (.t 3), none, [], false⟩,
              ⟨(some 25), .bin .add (.t 24) (.k (.int .i64 1)), none, [], false⟩,
              ⟨(some 3), .mv (.t 25), none, [], false⟩])))))
        (.seq (.reg [
           ⟨(some 26), .mv (.t 3), none, [], false⟩,
           ⟨(some 2), .mv (.t 26), none, [], false⟩])
         (.ret))))))
/-- skyway/plane.Distance -/
def c141 : CF where
  np := 2
  nt := 23
  res := [.t 4, .t 5]
  code := .seq (.reg [
      ⟨(some 2), .box (.t 0), none, [], false⟩,
      ⟨(some 3), .box (.t 1), none, [], false⟩,
      ⟨(some 4), .mv (.k (.int .i64 0)), none, [], false⟩,
      ⟨(some 5), .mv (.k (.int .i64 0)), none, [], false⟩])
    (.seq (.reg [
       ⟨(some 8), .ldn 2 (.t 2), none, [], false⟩,
       ⟨(some 9), .ldn 2 (.t 3), none, [], false⟩,
       ⟨(some 10), .call (.k (.fn 164 [])) [(.t 8), (.t 9)], none, [], false⟩,
       ⟨(some 6), .mv (.t 10), none, [], false⟩])
     (.seq (.reg [
        ⟨(some 11), .mv (.t 6), none, [], false⟩,
        ⟨(some 12), .call (.k (.fn 165 [])) [(.t 11)], none, [], false⟩,
        ⟨(some 7), .mv (.t 12), none, [], false⟩])
      (.seq (.seq (.reg [
          ⟨(some 13), .mv (.t 7), none, [], false⟩,
          ⟨(some 14), .mv (.t 7), none, [], false⟩,
          ⟨(some 15), .bin .mul (.t 13) (.t 14), none, [], false⟩,
          ⟨(some 16), .mv (.t 6), none, [], false⟩,
          ⟨(some 17), .bin .lss (.t 15) (.t 16), none, [], false⟩])
        (.cond (.t 17) (.seq (.reg [
            ⟨(some 18), .mv (.t 7), none, [], false⟩,
            ⟨(some 19), .mv (.t 7), none, [], false⟩,
            ⟨(some 20), .bin .add (.t 19) (.k (.int .i64 1)), none, [], false⟩,
            ⟨(some 4), .mv (.t 18), none, [], false⟩,
            ⟨(some 5), .mv (.t 20), none, [], false⟩])
          (.ret))
         (.skip)))
       (.seq (.reg [
          ⟨(some 21), .mv (.t 7), none, [], false⟩,
          ⟨(some 22), .mv (.t 7), none, [], false⟩,
          ⟨(some 4), .mv (.t 21), none, [], false⟩,
          ⟨(some 5), .mv (.t 22), none, [], false⟩])
        (.ret)))))
/-- skyway/probe.surplus -/
def c113 : CF where
  np := 2
  nt := 24
  res := [.t 4]
  code := .seq (.reg [
      ⟨(some 2), .box (.t 0), none, [], false⟩,
      ⟨(some 3), .box (.t 1), none, [], false⟩,
      ⟨(some 4), .mv (.k (.int .i64 0)), none, [], false⟩])
    (.seq (.reg [
       ⟨(some 8), .fad 0 (.t 2), none, [], false⟩,
       ⟨(some 9), .fad 1 (.t 8), none, [], false⟩,
       ⟨(some 10), .ldn 2 (.t 9), none, [], false⟩,
       ⟨(some 11), .fad 0 (.t 3), none, [], false⟩,
       ⟨(some 12), .fad 1 (.t 11), none, [], false⟩,
       ⟨(some 13), .ldn 2 (.t 12), none, [], false⟩,
       ⟨(some 14), .call (.k (.fn 141 [])) [(.t 10), (.t 13)], none, [], false⟩,
       ⟨(some 7), .mv (.t 14), none, [], false⟩,
       ⟨(some 15), .ext (.t 7) 0, none, [], false⟩,
       ⟨(some 16), .ext (.t 7) 1, none, [], false⟩,
       ⟨(some 5), .mv (.t 15), none, [], false⟩,
       ⟨(some 6), .mv (.t 16), none, [], false⟩])
     (.seq (.reg [
        ⟨(some 17), .mv (.t 5), none, [], false⟩,
        ⟨(some 18), .fad 4 (.t 2), none, [], false⟩,
        ⟨(some 19), .ld1 (.t 18), none, [], false⟩,
        ⟨(some 20), .bin .sub (.t 17) (.t 19), none, [], false⟩,
        ⟨(some 21), .fad 4 (.t 3), none, [], false⟩,
        ⟨(some 22), .ld1 (.t 21), none, [], false⟩,
        ⟨(some 23), .bin .sub (.t 20) (.t 22), none, [], false⟩,
        ⟨(some 4), .mv (.t 23), none, [], false⟩])
      (.ret)))
/-- skyway/probe.separated -/
def c92 : CF where
  np := 3
  nt := 39
  res := [.t 6]
  code := .seq (.reg [
      ⟨(some 3), .box (.t 0), none, [], false⟩,
      ⟨(some 4), .box (.t 1), none, [], false⟩,
      ⟨(some 5), .box (.t 2), none, [], false⟩,
      ⟨(some 6), .mv (.k (.bool false)), none, [], false⟩])
    (.seq (.reg [
       ⟨(some 7), .fad 0 (.t 3), none, [], false⟩,
       ⟨(some 8), .fad 3 (.t 7), none, [], false⟩,
       ⟨(some 9), .ld1 (.t 8), none, [], false⟩,
       ⟨(some 10), .fad 0 (.t 4), none, [], false⟩,
       ⟨(some 11), .fad 3 (.t 10), none, [], false⟩,
       ⟨(some 12), .ld1 (.t 11), none, [], false⟩,
       ⟨(some 13), .bin .sub (.t 9) (.t 12), none, [], false⟩,
       ⟨(some 14), .fad 0 (.t 4), none, [], false⟩,
       ⟨(some 15), .fad 3 (.t 14), none, [], false⟩,
       ⟨(some 16), .ld1 (.t 15), none, [], false⟩,
       ⟨(some 17), .fad 0 (.t 3), none, [], false⟩,
       ⟨(some 18), .fad 3 (.t 17), none, [], false⟩,
       ⟨(some 19), .ld1 (.t 18), none, [], false⟩,
       ⟨(some 20), .bin .sub (.t 16) (.t 19), none, [], false⟩,
       ⟨(some 21), .mnx true (.t 13) [(.t 20)], none, [], false⟩,
       ⟨(some 22), .fad 5 (.t 3), none, [], false⟩,
       ⟨(some 23), .ld1 (.t 22), none, [], false⟩,
       ⟨(some 24), .bin .sub (.t 21) (.t 23), none, [], false⟩,
       ⟨(some 25), .fad 5 (.t 4), none, [], false⟩,
       ⟨(some 26), .ld1 (.t 25), none, [], false⟩,
       ⟨(some 27), .bin .sub (.t 24) (.t 26), none, [], false⟩,
       ⟨(some 28), .fad 1 (.t 5), none, [], false⟩,
       ⟨(some 29), .ld1 (.t 28), none, [], false⟩,
       ⟨(some 30), .bin .geq (.t 27) (.t 29), none, [], false⟩,
       ⟨(some 31), .mv (.t 30), none, [], false⟩,
       ⟨(some 32), .ldn 6 (.t 3), (some (31, false)), [], false⟩,
       ⟨(some 33), .ldn 6 (.t 4), (some (31, false)), [], false⟩,
       ⟨(some 35), .fad 0 (.t 5), (some (31, false)), [], false⟩,
       ⟨(some 36), .ld1 (.t 35), (some (31, false)), [], false⟩,
       ⟨(some 34), .call (.k (.fn 113 [])) [(.t 32), (.t 33)], (some (31, false)), [], true⟩,
       ⟨(some 37), .bin .geq (.t 34) (.t 36), (some (31, false)), [], false⟩,
       ⟨(some 38), .pick (.t 31) (.k (.bool true)) (.t 37), none, [], false⟩,
       ⟨(some 6), .mv (.t 38), none, [], false⟩])
     (.ret))
/-- skyway/probe.pair -/
def c52 : CF where
  np := 3
  nt := 67
  res := [.t 6]
  code := .seq (.reg [
      ⟨(some 5), .box (.t 2), none, [], false⟩,
      ⟨(some 6), .mv (.k (.sl true 0 0 0 0 0)), none, [], false⟩])
    (.seq (.reg [
       ⟨(some 7), .mv (.k (.sl true 0 0 0 0 0)), none, [], false⟩])
     (.seq (.reg [
        ⟨(some 15), .mv (.t 0), none, [], false⟩,
        ⟨(some 16), .mv (.t 1), none, [], false⟩,
        ⟨(some 17), .call (.k (.fn 90 [])) [(.t 15), (.t 16)], none, [], false⟩,
        ⟨(some 14), .mv (.t 17), none, [], false⟩,
        ⟨(some 18), .ext (.t 14) 0, none, [], false⟩,
        ⟨(some 19), .ext (.t 14) 1, none, [], false⟩,
        ⟨(some 8), .mv (.t 18), none, [], false⟩,
        ⟨(some 9), .mv (.t 19), none, [], false⟩])
      (.seq (.seq (.reg [
          ⟨(some 20), .mv (.t 8), none, [], false⟩,
          ⟨(some 10), .mv (.t 20), none, [], false⟩])
        (.blk 0 (.loop (.seq (.seq (.reg [
              ⟨(some 21), .mv (.t 10), none, [], false⟩,
              ⟨(some 22), .mv (.t 9), none, [], false⟩,
              ⟨(some 23), .bin .leq (.t 21) (.t 22), none, [], false⟩])
            (.cond (.t 23) (.skip)
             (.exit 0)))
           (.seq (.blk 1 (.seq (.reg [
                ⟨(some 26), .mv (.t 0), none, [], false⟩,
                ⟨(some 27), .mv (.t 10), none, [], false⟩,
                ⟨(some 28), .call (.k (.fn 91 [])) [(.t 26), (.t 27)], none, [], false⟩,
                ⟨(some 29), .mv (.t 1), none, [], false⟩,
                ⟨(some 30), .mv (.t 10), none, [], false⟩,
                ⟨(some 31), .call (.k (.fn 91 [])) [(.t 29), (.t 30)], none, [], false⟩,
                ⟨(some 11), .new [.int .i64 0, .int .i64 0, .int .i64 0, .int .i64 0, .int .i64 0, .int .i64 0], none, [], false⟩,
                ⟨(some 12), .new [.int .i64 0, .int .i64 0, .int .i64 0, .int .i64 0, .int .i64 0, .int .i64 0], none, [], false⟩,
                ⟨none, .st 6 (.t 11) (.t 28), none, [], false⟩,
                ⟨none, .st 6 (.t 12) (.t 31), none, [], false⟩])
              (.seq (.seq (.reg [
                  ⟨(some 32), .ldn 6 (.t 11), none, [], false⟩,
                  ⟨(some 33), .ldn 6 (.t 12), none, [], false⟩,
                  ⟨(some 34), .ldn 2 (.t 5), none, [], false⟩,
                  ⟨(some 35), .call (.k (.fn 92 [])) [(.t 32), (.t 33), (.t 34)], none, [], false⟩])
                (.cond (.t 35) (.exit 1)
                 (.skip)))
               (.seq (.reg [
                  ⟨(some 36), .mv (.t 7), none, [], false⟩,
                  ⟨(some 37), .lenv false (.t 36), none, [], false⟩,
                  ⟨(some 13), .mv (.t 37), none, [], false⟩])
                (.seq (.reg [
                   ⟨(some 38), .mv (.t 13), none, [], false⟩,
                   ⟨(some 39), .bin .gtr (.t 38) (.k (.int .i64 0)), none, [], false⟩,
                   ⟨(some 40), .mv (.t 39), none, [], false⟩,
                   ⟨(some 41), .mv (.t 7), (some (40, true)), [], false⟩,
                   ⟨(some 42), .mv (.t 13), (some (40, true)), [], false⟩,
                   ⟨(some 43), .bin .sub (.t 42) (.k (.int .i64 1)), (some (40, true)), [], false⟩,
                   ⟨(some 44), .iad 2 (.t 41) (.t 43), (some (40, true)), [], false⟩,
                   ⟨(some 45), .fad 1 (.t 44), (some (40, true)), [], false⟩,
                   ⟨(some 46), .ld1 (.t 45), (some (40, true)), [], false⟩,
                   ⟨(some 47), .mv (.t 10), (some (40, true)), [], false⟩,
                   ⟨(some 48), .bin .eql (.t 46) (.t 47), (some (40, true)), [], false⟩,
                   ⟨(some 49), .pick (.t 40) (.t 48) (.k (.bool false)), none, [], false⟩])
                 (.cond (.t 49) (.reg [
                    ⟨(some 50), .mv (.t 7), none, [], false⟩,
                    ⟨(some 51), .mv (.t 13), none, [], false⟩,
                    ⟨(some 52), .bin .sub (.t 51) (.k (.int .i64 1)), none, [], false⟩,
                    ⟨(some 53), .iad 2 (.t 50) (.t 52), none, [], false⟩,
                    ⟨(some 54), .fad 1 (.t 53), none, [], false⟩,
                    ⟨(some 55), .ld1 (.t 54), none, [], false⟩,
                    ⟨(some 56), .bin .add (.t 55) (.k (.int .i64 1)), none, [], false⟩,
                    ⟨(some 57), .iad 2 (.t 50) (.t 52), none, [], false⟩,
                    ⟨(some 58), .fad 1 (.t 57), none, [], false⟩,
                    ⟨none, .st 1 (.t 58) (.t 56), none, [], false⟩])
                  (.reg [
                    ⟨(some 59), .mv (.t 7), none, [], false⟩,
                    ⟨(some 60), .mv (.t 10), none, [], false⟩,
                    ⟨(some 61), .mv (.t 10), none, [], false⟩,
                    ⟨(some 62), .bin .add (.t 61) (.k (.int .i64 1)), none, [], false⟩,
                    ⟨(some 63), .mk [.int .i64 0, .int .i64 0] [(0, 1, (.t 60)), (1, 1, (.t 62))], none, [], false⟩,
                    ⟨(some 64), .mks [.int .i64 0, .int .i64 0] 2 1 [(0, 2, (.t 63))], none, [], false⟩,
                    ⟨(some 65), .app 2 16 (.t 59) (.t 64), none, [], false⟩,
                    ⟨(some 7), .mv (.t 65), none, [], false⟩])))))))
            (.reg [
              ⟨(some 24), .mv (.t 10), none, [], false⟩,
              ⟨(some 25), .bin .add (.t 24) (.k (.int .i64 1)), none, [], false⟩,
              ⟨(some 10), .mv (.t 25), none, [], false⟩]))))))
       (.seq (.reg [
          ⟨(some 66), .mv (.t 7), none, [], false⟩,
          ⟨(some 6), .mv (.t 66), none, [], false⟩])
        (.ret)))))
/-- skyway/probe.Pair -/
def c16 : CF where
  np := 3
  nt := 21
  res := [.t 6, .t 7]
  code := .seq (.reg [
      ⟨(some 5), .box (.t 2), none, [], false⟩,
      ⟨(some 6), .mv (.k (.sl true 0 0 0 0 0)), none, [], false⟩,
      ⟨(some 7), .mv (.k (.int .i64 0)), none, [], false⟩])
    (.seq (.seq (.reg [
        ⟨(some 9), .ldn 2 (.t 5), none, [], false⟩,
        ⟨(some 10), .mv (.t 0), none, [], false⟩,
        ⟨(some 11), .mv (.t 1), none, [], false⟩,
        ⟨(some 12), .mks [.sl true 0 0 0 0 0, .sl true 0 0 0 0 0] 1 2 [(0, 1, (.t 10)), (1, 1, (.t 11))], none, [], false⟩,
        ⟨(some 13), .call (.k (.fn 51 [])) [(.t 9), (.t 12)], none, [], false⟩,
        ⟨(some 8), .mv (.t 13), none, [], false⟩])
      (.seq (.reg [
         ⟨(some 14), .mv (.t 8), none, [], false⟩,
         ⟨(some 15), .bin .neq (.t 14) (.k (.int .i64 0)), none, [], false⟩])
       (.cond (.t 15) (.seq (.reg [
           ⟨(some 16), .mv (.t 8), none, [], false⟩,
           ⟨(some 6), .mv (.k (.sl true 0 0 0 0 0)), none, [], false⟩,
           ⟨(some 7), .mv (.t 16), none, [], false⟩])
         (.ret))
        (.skip))))
     (.seq (.reg [
        ⟨(some 17), .mv (.t 0), none, [], false⟩,
        ⟨(some 18), .mv (.t 1), none, [], false⟩,
        ⟨(some 19), .ldn 2 (.t 5), none, [], false⟩,
        ⟨(some 20), .call (.k (.fn 52 [])) [(.t 17), (.t 18), (.t 19)], none, [], false⟩,
        ⟨(some 6), .mv (.t 20), none, [], false⟩,
        ⟨(some 7), .mv (.k (.int .i64 0)), none, [], false⟩])
      (.ret)))
/-- skyway/skywaylaw1.probeWorks -/
def c15 : CF where
  np := 0
  nt := 28
  res := [.t 0]
  code := .seq (.reg [
      ⟨(some 0), .mv (.k (.bool false)), none, [], false⟩])
    (.seq (.reg [
       ⟨(some 4), .call (.k (.fn 50 [])) [(.k (.int .i64 0)), (.k (.int .i64 0)), (.k (.int .i64 0)), (.k (.int .i64 0)), (.k (.int .i64 1)), (.k (.int .i64 0))], none, [], false⟩,
       ⟨(some 5), .call (.k (.fn 50 [])) [(.k (.int .i64 9)), (.k (.int .i64 9)), (.k (.int .i64 0)), (.k (.int .i64 0)), (.k (.int .i64 1)), (.k (.int .i64 0))], none, [], false⟩,
       ⟨(some 6), .mks [.int .i64 0, .int .i64 0, .int .i64 0, .int .i64 0, .int .i64 0, .int .i64 0, .int .i64 0, .int .i64 0, .int .i64 0, .int .i64 0, .int .i64 0, .int .i64 0] 6 2 [(0, 6, (.t 4)), (6, 6, (.t 5))], none, [], false⟩,
       ⟨(some 7), .call (.k (.fn 50 [])) [(.k (.int .i64 0)), (.k (.int .i64 5)), (.k (.int .i64 4)), (.k (.int .i64 0)), (.k (.int .i64 0)), (.k (.int .i64 0))], none, [], false⟩,
       ⟨(some 8), .call (.k (.fn 50 [])) [(.k (.int .i64 9)), (.k (.int .i64 5)), (.k (.int .i64 4)), (.k (.int .i64 0)), (.k (.int .i64 0)), (.k (.int .i64 0))], none, [], false⟩,
       ⟨(some 9), .mks [.int .i64 0, .int .i64 0, .int .i64 0, .int .i64 0, .int .i64 0, .int .i64 0, .int .i64 0, .int .i64 0, .int .i64 0, .int .i64 0, .int .i64 0, .int .i64 0] 6 2 [(0, 6, (.t 7)), (6, 6, (.t 8))], none, [], false⟩,
       ⟨(some 10), .mk [.int .i64 0, .int .i64 0] [(0, 1, (.k (.int .i64 4))), (1, 1, (.k (.int .i64 9)))], none, [], false⟩,
       ⟨(some 11), .call (.k (.fn 16 [])) [(.t 6), (.t 9), (.t 10)], none, [], false⟩,
       ⟨(some 3), .mv (.t 11), none, [], false⟩,
       ⟨(some 12), .ext (.t 3) 0, none, [], false⟩,
       ⟨(some 13), .ext (.t 3) 1, none, [], false⟩,
       ⟨(some 1), .mv (.t 12), none, [], false⟩,
       ⟨(some 2), .mv (.t 13), none, [], false⟩])
     (.seq (.reg [
        ⟨(some 14), .mv (.t 2), none, [], false⟩,
        ⟨(some 15), .bin .eql (.t 14) (.k (.int .i64 0)), none, [], false⟩,
        ⟨(some 16), .mv (.t 15), none, [], false⟩,
        ⟨(some 17), .mv (.t 1), (some (16, true)), [], false⟩,
        ⟨(some 18), .lenv false (.t 17), (some (16, true)), [], false⟩,
        ⟨(some 19), .bin .eql (.t 18) (.k (.int .i64 1)), (some (16, true)), [], false⟩,
        ⟨(some 20), .pick (.t 16) (.t 19) (.k (.bool false)), none, [], false⟩,
        ⟨(some 21), .mv (.t 20), none, [], false⟩,
        ⟨(some 22), .mv (.t 1), (some (21, true)), [], false⟩,
        ⟨(some 23), .iad 2 (.t 22) (.k (.int .i64 0)), (some (21, true)), [], false⟩,
        ⟨(some 24), .ldn 2 (.t 23), (some (21, true)), [], false⟩,
        ⟨(some 25), .mk [.int .i64 0, .int .i64 0] [(0, 1, (.k (.int .i64 3))), (1, 1, (.k (.int .i64 8)))], (some (21, true)), [], false⟩,
        ⟨(some 26), .eqs false (some [.i, .i]) (.t 24) (.t 25), (some (21, true)), [], false⟩,
        ⟨(some 27), .pick (.t 21) (.t 26) (.k (.bool false)), none, [], false⟩,
        ⟨(some 0), .mv (.t 27), none, [], false⟩])
      (.ret)))
/-- skyway/skywayref1.Floor -/
def c114 : CF where
  np := 2
  nt := 36
  res := [.t 4]
  code := .seq (.reg [
      ⟨(some 4), .mv (.k (.int .i64 0)), none, [], false⟩])
    (.seq (.seq (.reg [
        ⟨(some 7), .mv (.t 0), none, [], false⟩,
        ⟨(some 8), .bin .lss (.t 7) (.k (.int .i64 0)), none, [], false⟩])
      (.cond (.t 8) (.seq (.reg [
          ⟨(some 9), .mv (.t 0), none, [], false⟩,
          ⟨(some 10), .un .neg (.t 9), none, [], false⟩,
          ⟨(some 11), .mv (.t 1), none, [], false⟩,
          ⟨(some 12), .bin .add (.t 10) (.t 11), none, [], false⟩,
          ⟨(some 13), .bin .sub (.t 12) (.k (.int .i64 1)), none, [], false⟩,
          ⟨(some 14), .mv (.t 1), none, [], false⟩,
          ⟨(some 15), .call (.k (.fn 114 [])) [(.t 13), (.t 14)], none, [], false⟩,
          ⟨(some 16), .un .neg (.t 15), none, [], false⟩,
          ⟨(some 4), .mv (.t 16), none, [], false⟩])
        (.ret))
       (.skip)))
     (.seq (.reg [
        ⟨(some 5), .mv (.k (.int .i64 0)), none, [], false⟩])
      (.seq (.seq (.reg [
          ⟨(some 6), .mv (.k (.int .i64 62)), none, [], false⟩])
        (.blk 0 (.loop (.seq (.seq (.reg [
              ⟨(some 17), .mv (.t 6), none, [], false⟩,
              ⟨(some 18), .bin .geq (.t 17) (.k (.int .i64 0)), none, [], false⟩])
            (.cond (.t 18) (.skip)
             (.exit 0)))
           (.seq (.blk 1 (.seq (.reg [
                ⟨(some 21), .mv (.t 1), none, [], false⟩,
                ⟨(some 22), .mv (.t 0), none, [], false⟩,
                ⟨(some 23), .mv (.t 6), none, [], false⟩,
                ⟨(some 24), .bin .shr (.t 22) (.t 23), none, [], false⟩,
                ⟨(some 25), .bin .leq (.t 21) (.t 24), none, [], false⟩])
              (.cond (.t 25) (.seq (.reg [
                  ⟨(some 26), .mv (.t 0), none, [], false⟩,
                  ⟨(some 27), .mv (.t 1), none, [], false⟩,
                  ⟨(some 28), .mv (.t 6), none, [], false⟩,
                  ⟨(some 29), .bin .shl (.t 27) (.t 28), none, [], false⟩,
                  ⟨(some 30), .bin .sub (.t 26) (.t 29), none, [], false⟩,
                  ⟨(some 0), .mv (.t 30), none, [], false⟩])
                (.reg [
                  ⟨(some 31), .mv (.t 5), none, [], false⟩,
                  ⟨(some 32), .mv (.t 6), none, [], false⟩,
                  ⟨(some 33), .bin .shl (.k (.int .i64 1)) (.t 32), none, [], false⟩,
                  ⟨(some 34), .bin .add (.t 31) (.t 33), none, [], false⟩,
                  ⟨(some 5), .mv (.t 34), none, [], false⟩]))
               (.skip))))
            (.reg [
              ⟨(some 19), .mv (.t 6), none, [], false⟩,
              ⟨(some 20), .bin .sub (.t 19) (.k (.int .i64 1)), none, [], false⟩,
              ⟨(some 6), .mv (.t 20), none, [], false⟩]))))))
       (.seq (.reg [
          ⟨(some 35), .mv (.t 5), none, [], false⟩,
          ⟨(some 4), .mv (.t 35), none, [], false⟩])
        (.ret)))))
/-- skyway/skywayref1.Mix -/
def c95 : CF where
  np := 4
  nt := 18
  res := [.t 8]
  code := .seq (.reg [
      ⟨(some 8), .mv (.k (.int .i64 0)), none, [], false⟩])
    (.seq (.reg [
       ⟨(some 9), .mv (.t 0), none, [], false⟩,
       ⟨(some 10), .mv (.t 1), none, [], false⟩,
       ⟨(some 11), .mv (.t 0), none, [], false⟩,
       ⟨(some 12), .bin .sub (.t 10) (.t 11), none, [], false⟩,
       ⟨(some 13), .mv (.t 2), none, [], false⟩,
       ⟨(some 14), .bin .mul (.t 12) (.t 13), none, [], false⟩,
       ⟨(some 15), .mv (.t 3), none, [], false⟩,
       ⟨(some 16), .call (.k (.fn 114 [])) [(.t 14), (.t 15)], none, [], false⟩,
       ⟨(some 17), .bin .add (.t 9) (.t 16), none, [], false⟩,
       ⟨(some 8), .mv (.t 17), none, [], false⟩])
     (.ret))
/-- skyway/skywayref1.Ceil -/
def c115 : CF where
  np := 2
  nt := 10
  res := [.t 4]
  code := .seq (.reg [
      ⟨(some 4), .mv (.k (.int .i64 0)), none, [], false⟩])
    (.seq (.reg [
       ⟨(some 5), .mv (.t 0), none, [], false⟩,
       ⟨(some 6), .un .neg (.t 5), none, [], false⟩,
       ⟨(some 7), .mv (.t 1), none, [], false⟩,
       ⟨(some 8), .call (.k (.fn 114 [])) [(.t 6), (.t 7)], none, [], false⟩,
       ⟨(some 9), .un .neg (.t 8), none, [], false⟩,
       ⟨(some 4), .mv (.t 9), none, [], false⟩])
     (.ret))
/-- skyway/skywayref1.MixUp -/
def c96 : CF where
  np := 4
  nt := 18
  res := [.t 8]
  code := .seq (.reg [
      ⟨(some 8), .mv (.k (.int .i64 0)), none, [], false⟩])
    (.seq (.reg [
       ⟨(some 9), .mv (.t 0), none, [], false⟩,
       ⟨(some 10), .mv (.t 1), none, [], false⟩,
       ⟨(some 11), .mv (.t 0), none, [], false⟩,
       ⟨(some 12), .bin .sub (.t 10) (.t 11), none, [], false⟩,
       ⟨(some 13), .mv (.t 2), none, [], false⟩,
       ⟨(some 14), .bin .mul (.t 12) (.t 13), none, [], false⟩,
       ⟨(some 15), .mv (.t 3), none, [], false⟩,
       ⟨(some 16), .call (.k (.fn 115 [])) [(.t 14), (.t 15)], none, [], false⟩,
       ⟨(some 17), .bin .add (.t 9) (.t 16), none, [], false⟩,
       ⟨(some 8), .mv (.t 17), none, [], false⟩])
     (.ret))
/-- skyway/skywayref1.Node -/
def c55 : CF where
  np := 2
  nt := 102
  res := [.cn 6 4]
  code := .seq (.reg [
      ⟨(some 4), .new [.int .i64 0, .int .i64 0, .int .i64 0, .int .i64 0, .int .i64 0, .int .i64 0], none, [], false⟩])
    (.seq (.seq (.reg [
        ⟨(some 10), .mv (.t 0), none, [], false⟩,
        ⟨(some 11), .lenv false (.t 10), none, [], false⟩,
        ⟨(some 12), .bin .sub (.t 11) (.k (.int .i64 1)), none, [], false⟩,
        ⟨(some 5), .mv (.t 12), none, [], false⟩])
      (.blk 0 (.loop (.seq (.seq (.reg [
            ⟨(some 13), .mv (.t 5), none, [], false⟩,
            ⟨(some 14), .bin .gtr (.t 13) (.k (.int .i64 0)), none, [], false⟩])
          (.cond (.t 14) (.skip)
           (.exit 0)))
         (.seq (.blk 1 (.seq (.reg [
              ⟨(some 17), .mv (.t 0), none, [], false⟩,
              ⟨(some 18), .mv (.t 5), none, [], false⟩,
              ⟨(some 19), .bin .sub (.t 18) (.k (.int .i64 1)), none, [], false⟩,
              ⟨(some 20), .iad 6 (.t 17) (.t 19), none, [], false⟩,
              ⟨(some 21), .ldn 6 (.t 20), none, [], false⟩,
              ⟨(some 22), .mv (.t 0), none, [], false⟩,
              ⟨(some 23), .mv (.t 5), none, [], false⟩,
              ⟨(some 24), .iad 6 (.t 22) (.t 23), none, [], false⟩,
              ⟨(some 25), .ldn 6 (.t 24), none, [], false⟩,
              ⟨(some 6), .new [.int .i64 0, .int .i64 0, .int .i64 0, .int .i64 0, .int .i64 0, .int .i64 0], none, [], false⟩,
              ⟨(some 7), .new [.int .i64 0, .int .i64 0, .int .i64 0, .int .i64 0, .int .i64 0, .int .i64 0], none, [], false⟩,
              ⟨none, .st 6 (.t 6) (.t 21), none, [(.t 24)], false⟩,
              ⟨none, .st 6 (.t 7) (.t 25), none, [], false⟩])
            (.seq (.seq (.reg [
                ⟨(some 26), .mv (.t 1), none, [], false⟩,
                ⟨(some 27), .fad 0 (.t 7), none, [], false⟩,
                ⟨(some 28), .fad 0 (.t 27), none, [], false⟩,
                ⟨(some 29), .ld1 (.t 28), none, [], false⟩,
                ⟨(some 30), .bin .gtr (.t 26) (.t 29), none, [], false⟩,
                ⟨(some 31), .mv (.t 30), none, [], false⟩,
                ⟨(some 32), .mv (.t 1), (some (31, false)), [], false⟩,
                ⟨(some 33), .fad 0 (.t 6), (some (31, false)), [], false⟩,
                ⟨(some 34), .fad 0 (.t 33), (some (31, false)), [], false⟩,
                ⟨(some 35), .ld1 (.t 34), (some (31, false)), [], false⟩,
                ⟨(some 36), .bin .lss (.t 32) (.t 35), (some (31, false)), [], false⟩,
                ⟨(some 37), .pick (.t 31) (.k (.bool true)) (.t 36), none, [], false⟩])
              (.cond (.t 37) (.exit 1)
               (.skip)))
             (.seq (.reg [
                ⟨(some 38), .mv (.t 1), none, [], false⟩,
                ⟨(some 39), .fad 0 (.t 6), none, [], false⟩,
                ⟨(some 40), .fad 0 (.t 39), none, [], false⟩,
                ⟨(some 41), .ld1 (.t 40), none, [], false⟩,
                ⟨(some 42), .bin .sub (.t 38) (.t 41), none, [], false⟩,
                ⟨(some 43), .fad 0 (.t 7), none, [], false⟩,
                ⟨(some 44), .fad 0 (.t 43), none, [], false⟩,
                ⟨(some 45), .ld1 (.t 44), none, [], false⟩,
                ⟨(some 46), .fad 0 (.t 6), none, [], false⟩,
                ⟨(some 47), .fad 0 (.t 46), none, [], false⟩,
                ⟨(some 48), .ld1 (.t 47), none, [], false⟩,
                ⟨(some 49), .bin .sub (.t 45) (.t 48), none, [], false⟩,
                ⟨(some 8), .mv (.t 42), none, [], false⟩,
                ⟨(some 9), .mv (.t 49), none, [], false⟩])
              (.seq (.reg [
                 ⟨(some 50), .mv (.t 1), none, [], false⟩,
                 ⟨(some 51), .fad 0 (.t 6), none, [], false⟩,
                 ⟨(some 52), .fad 1 (.t 51), none, [], false⟩,
                 ⟨(some 53), .fad 0 (.t 52), none, [], false⟩,
                 ⟨(some 54), .ld1 (.t 53), none, [], false⟩,
                 ⟨(some 55), .fad 0 (.t 7), none, [], false⟩,
                 ⟨(some 56), .fad 1 (.t 55), none, [], false⟩,
                 ⟨(some 57), .fad 0 (.t 56), none, [], false⟩,
                 ⟨(some 58), .ld1 (.t 57), none, [], false⟩,
                 ⟨(some 59), .mv (.t 8), none, [], false⟩,
                 ⟨(some 60), .mv (.t 9), none, [], false⟩,
                 ⟨(some 62), .fad 0 (.t 6), none, [], false⟩,
                 ⟨(some 63), .fad 1 (.t 62), none, [], false⟩,
                 ⟨(some 64), .fad 1 (.t 63), none, [], false⟩,
                 ⟨(some 65), .ld1 (.t 64), none, [], false⟩,
                 ⟨(some 66), .fad 0 (.t 7), none, [], false⟩,
                 ⟨(some 67), .fad 1 (.t 66), none, [], false⟩,
                 ⟨(some 68), .fad 1 (.t 67), none, [], false⟩,
                 ⟨(some 69), .ld1 (.t 68), none, [], false⟩,
                 ⟨(some 70), .mv (.t 8), none, [], false⟩,
                 ⟨(some 71), .mv (.t 9), none, [], false⟩,
                 ⟨(some 74), .fad 0 (.t 6), none, [], false⟩,
                 ⟨(some 75), .fad 3 (.t 74), none, [], false⟩,
                 ⟨(some 76), .ld1 (.t 75), none, [], false⟩,
                 ⟨(some 77), .fad 0 (.t 7), none, [], false⟩,
                 ⟨(some 78), .fad 3 (.t 77), none, [], false⟩,
                 ⟨(some 79), .ld1 (.t 78), none, [], false⟩,
                 ⟨(some 80), .mv (.t 8), none, [], false⟩,
                 ⟨(some 81), .mv (.t 9), none, [], false⟩,
                 ⟨(some 84), .fad 4 (.t 6), none, [], false⟩,
                 ⟨(some 85), .ld1 (.t 84), none, [], false⟩,
                 ⟨(some 86), .fad 4 (.t 7), none, [], false⟩,
                 ⟨(some 87), .ld1 (.t 86), none, [], false⟩,
                 ⟨(some 88), .mv (.t 8), none, [], false⟩,
                 ⟨(some 89), .mv (.t 9), none, [], false⟩,
                 ⟨(some 91), .fad 5 (.t 6), none, [], false⟩,
                 ⟨(some 92), .ld1 (.t 91), none, [], false⟩,
                 ⟨(some 93), .fad 5 (.t 7), none, [], false⟩,
                 ⟨(some 94), .ld1 (.t 93), none, [], false⟩,
                 ⟨(some 95), .mv (.t 8), none, [], false⟩,
                 ⟨(some 96), .mv (.t 9), none, [], false⟩,
                 ⟨(some 61), .call (.k (.fn 95 [])) [(.t 54), (.t 58), (.t 59), (.t 60)], none, [], true⟩,
                 ⟨(some 72), .call (.k (.fn 95 [])) [(.t 65), (.t 69), (.t 70), (.t 71)], none, [], true⟩,
                 ⟨(some 73), .mk [.int .i64 0, .int .i64 0] [(0, 1, (.t 61)), (1, 1, (.t 72))], none, [], false⟩,
                 ⟨(some 82), .call (.k (.fn 95 [])) [(.t 76), (.t 79), (.t 80), (.t 81)], none, [], true⟩,
                 ⟨(some 83), .mk [.int .i64 0, .int .i64 0, .int .i64 0, .int .i64 0] [(0, 1, (.t 50)), (1, 2, (.t 73)), (3, 1, (.t 82))], none, [], false⟩,
                 ⟨(some 90), .call (.k (.fn 96 [])) [(.t 85), (.t 87), (.t 88), (.t 89)], none, [], true⟩,
                 ⟨(some 97), .call (.k (.fn 96 [])) [(.t 92), (.t 94), (.t 95), (.t 96)], none, [], false⟩,
                 ⟨(some 98), .mk [.int .i64 0, .int .i64 0, .int .i64 0, .int .i64 0, .int .i64 0, .int .i64 0] [(0, 4, (.t 83)), (4, 1, (.t 90)), (5, 1, (.t 97))], none, [], false⟩,
                 ⟨none, .st 6 (.t 4) (.t 98), none, [], false⟩])
               (.ret))))))
          (.reg [
            ⟨(some 15), .mv (.t 5), none, [], false⟩,
            ⟨(some 16), .bin .sub (.t 15) (.k (.int .i64 1)), none, [], false⟩,
            ⟨(some 5), .mv (.t 16), none, [], false⟩]))))))
     (.seq (.reg [
        ⟨(some 99), .mv (.t 0), none, [], false⟩,
        ⟨(some 100), .iad 6 (.t 99) (.k (.int .i64 0)), none, [], false⟩,
        ⟨(some 101), .ldn 6 (.t 100), none, [], false⟩,
        ⟨none, .st 6 (.t 4) (.t 101), none, [], false⟩])
      (.ret)))
/-- skyway/skywayref1.Square -/
def c93 : CF where
  np := 2
  nt := 28
  res := [.t 4]
  code := .seq (.reg [
      ⟨(some 2), .box (.t 0), none, [], false⟩,
      ⟨(some 3), .box (.t 1), none, [], false⟩,
      ⟨(some 4), .mv (.k (.int .i64 0)), none, [], false⟩])
    (.seq (.reg [
       ⟨(some 5), .fad 0 (.t 2), none, [], false⟩,
       ⟨(some 6), .ld1 (.t 5), none, [], false⟩,
       ⟨(some 7), .fad 0 (.t 3), none, [], false⟩,
       ⟨(some 8), .ld1 (.t 7), none, [], false⟩,
       ⟨(some 9), .bin .sub (.t 6) (.t 8), none, [], false⟩,
       ⟨(some 10), .fad 0 (.t 2), none, [], false⟩,
       ⟨(some 11), .ld1 (.t 10), none, [], false⟩,
       ⟨(some 12), .fad 0 (.t 3), none, [], false⟩,
       ⟨(some 13), .ld1 (.t 12), none, [], false⟩,
       ⟨(some 14), .bin .sub (.t 11) (.t 13), none, [], false⟩,
       ⟨(some 15), .bin .mul (.t 9) (.t 14), none, [], false⟩,
       ⟨(some 16), .fad 1 (.t 2), none, [], false⟩,
       ⟨(some 17), .ld1 (.t 16), none, [], false⟩,
       ⟨(some 18), .fad 1 (.t 3), none, [], false⟩,
       ⟨(some 19), .ld1 (.t 18), none, [], false⟩,
       ⟨(some 20), .bin .sub (.t 17) (.t 19), none, [], false⟩,
       ⟨(some 21), .fad 1 (.t 2), none, [], false⟩,
       ⟨(some 22), .ld1 (.t 21), none, [], false⟩,
       ⟨(some 23), .fad 1 (.t 3), none, [], false⟩,
       ⟨(some 24), .ld1 (.t 23), none, [], false⟩,
       ⟨(some 25), .bin .sub (.t 22) (.t 24), none, [], false⟩,
       ⟨(some 26), .bin .mul (.t 20) (.t 25), none, [], false⟩,
       ⟨(some 27), .bin .add (.t 15) (.t 26), none, [], false⟩,
       ⟨(some 4), .mv (.t 27), none, [], false⟩])
     (.ret))
/-- skyway/skywayref1.Abs -/
def c94 : CF where
  np := 1
  nt := 8
  res := [.t 2]
  code := .seq (.reg [
      ⟨(some 2), .mv (.k (.int .i64 0)), none, [], false⟩])
    (.seq (.seq (.reg [
        ⟨(some 3), .mv (.t 0), none, [], false⟩,
        ⟨(some 4), .bin .lss (.t 3) (.k (.int .i64 0)), none, [], false⟩])
      (.cond (.t 4) (.seq (.reg [
          ⟨(some 5), .mv (.t 0), none, [], false⟩,
          ⟨(some 6), .un .neg (.t 5), none, [], false⟩,
          ⟨(some 2), .mv (.t 6), none, [], false⟩])
        (.ret))
       (.skip)))
     (.seq (.reg [
        ⟨(some 7), .mv (.t 0), none, [], false⟩,
        ⟨(some 2), .mv (.t 7), none, [], false⟩])
      (.ret)))
/-- skyway/skywayref1.Apart -/
def c54 : CF where
  np := 3
  nt := 46
  res := [.t 6]
  code := .seq (.reg [
      ⟨(some 3), .box (.t 0), none, [], false⟩,
      ⟨(some 4), .box (.t 1), none, [], false⟩,
      ⟨(some 5), .box (.t 2), none, [], false⟩,
      ⟨(some 6), .mv (.k (.bool false)), none, [], false⟩])
    (.seq (.reg [
       ⟨(some 8), .fad 0 (.t 5), none, [], false⟩,
       ⟨(some 9), .ld1 (.t 8), none, [], false⟩,
       ⟨(some 10), .fad 4 (.t 3), none, [], false⟩,
       ⟨(some 11), .ld1 (.t 10), none, [], false⟩,
       ⟨(some 12), .bin .add (.t 9) (.t 11), none, [], false⟩,
       ⟨(some 13), .fad 4 (.t 4), none, [], false⟩,
       ⟨(some 14), .ld1 (.t 13), none, [], false⟩,
       ⟨(some 15), .bin .add (.t 12) (.t 14), none, [], false⟩,
       ⟨(some 7), .mv (.t 15), none, [], false⟩])
     (.seq (.reg [
        ⟨(some 16), .fad 0 (.t 3), none, [], false⟩,
        ⟨(some 17), .fad 1 (.t 16), none, [], false⟩,
        ⟨(some 18), .ldn 2 (.t 17), none, [], false⟩,
        ⟨(some 19), .fad 0 (.t 4), none, [], false⟩,
        ⟨(some 20), .fad 1 (.t 19), none, [], false⟩,
        ⟨(some 21), .ldn 2 (.t 20), none, [], false⟩,
        ⟨(some 23), .mv (.t 7), none, [], false⟩,
        ⟨(some 24), .mv (.t 7), none, [], false⟩,
        ⟨(some 25), .bin .mul (.t 23) (.t 24), none, [], false⟩,
        ⟨(some 22), .call (.k (.fn 93 [])) [(.t 18), (.t 21)], none, [], false⟩,
        ⟨(some 26), .bin .geq (.t 22) (.t 25), none, [], false⟩,
        ⟨(some 27), .mv (.t 26), none, [], false⟩,
        ⟨(some 28), .fad 0 (.t 3), (some (27, false)), [], false⟩,
        ⟨(some 29), .fad 3 (.t 28), (some (27, false)), [], false⟩,
        ⟨(some 30), .ld1 (.t 29), (some (27, false)), [], false⟩,
        ⟨(some 31), .fad 0 (.t 4), (some (27, false)), [], false⟩,
        ⟨(some 32), .fad 3 (.t 31), (some (27, false)), [], false⟩,
        ⟨(some 33), .ld1 (.t 32), (some (27, false)), [], false⟩,
        ⟨(some 34), .bin .sub (.t 30) (.t 33), (some (27, false)), [], false⟩,
        ⟨(some 36), .fad 1 (.t 5), (some (27, false)), [], false⟩,
        ⟨(some 37), .ld1 (.t 36), (some (27, false)), [], false⟩,
        ⟨(some 38), .fad 5 (.t 3), (some (27, false)), [], false⟩,
        ⟨(some 39), .ld1 (.t 38), (some (27, false)), [], false⟩,
        ⟨(some 40), .bin .add (.t 37) (.t 39), (some (27, false)), [], false⟩,
        ⟨(some 41), .fad 5 (.t 4), (some (27, false)), [], false⟩,
        ⟨(some 42), .ld1 (.t 41), (some (27, false)), [], false⟩,
        ⟨(some 43), .bin .add (.t 40) (.t 42), (some (27, false)), [], false⟩,
        ⟨(some 35), .call (.k (.fn 94 [])) [(.t 34)], (some (27, false)), [], true⟩,
        ⟨(some 44), .bin .geq (.t 35) (.t 43), (some (27, false)), [], false⟩,
        ⟨(some 45), .pick (.t 27) (.k (.bool true)) (.t 44), none, [], false⟩,
        ⟨(some 6), .mv (.t 45), none, [], false⟩])
      (.ret)))
/-- skyway/skywayref1.Clashes -/
def c19 : CF where
  np := 3
  nt := 76
  res := [.t 6]
  code := .seq (.reg [
      ⟨(some 5), .box (.t 2), none, [], false⟩,
      ⟨(some 6), .mv (.k (.sl true 0 0 0 0 0)), none, [], false⟩])
    (.seq (.reg [
       ⟨(some 7), .mv (.k (.sl true 0 0 0 0 0)), none, [], false⟩])
     (.seq (.seq (.reg [
         ⟨(some 8), .mv (.k (.int .i64 0)), none, [], false⟩])
       (.blk 0 (.loop (.seq (.seq (.reg [
             ⟨(some 9), .mv (.t 8), none, [], false⟩,
             ⟨(some 10), .bin .leq (.t 9) (.k (.int .i64 200000)), none, [], false⟩])
           (.cond (.t 10) (.skip)
            (.exit 0)))
          (.seq (.blk 1 (.seq (.seq (.reg [
                ⟨(some 13), .mv (.t 8), none, [], false⟩,
                ⟨(some 14), .mv (.t 0), none, [], false⟩,
                ⟨(some 15), .iad 6 (.t 14) (.k (.int .i64 0)), none, [], false⟩,
                ⟨(some 16), .fad 0 (.t 15), none, [], false⟩,
                ⟨(some 17), .fad 0 (.t 16), none, [], false⟩,
                ⟨(some 18), .ld1 (.t 17), none, [], false⟩,
                ⟨(some 19), .bin .lss (.t 13) (.t 18), none, [], false⟩,
                ⟨(some 20), .mv (.t 19), none, [], false⟩,
                ⟨(some 21), .mv (.t 8), (some (20, false)), [], false⟩,
                ⟨(some 22), .mv (.t 1), (some (20, false)), [], false⟩,
                ⟨(some 23), .iad 6 (.t 22) (.k (.int .i64 0)), (some (20, false)), [], false⟩,
                ⟨(some 24), .fad 0 (.t 23), (some (20, false)), [], false⟩,
                ⟨(some 25), .fad 0 (.t 24), (some (20, false)), [], false⟩,
                ⟨(some 26), .ld1 (.t 25), (some (20, false)), [], false⟩,
                ⟨(some 27), .bin .lss (.t 21) (.t 26), (some (20, false)), [], false⟩,
                ⟨(some 28), .pick (.t 20) (.k (.bool true)) (.t 27), none, [], false⟩])
              (.cond (.t 28) (.reg [
                 ⟨(some 29), .mv (.t 0), none, [], false⟩,
                 ⟨(some 30), .iad 6 (.t 29) (.k (.int .i64 0)), none, [], false⟩,
                 ⟨(some 31), .fad 0 (.t 30), none, [], false⟩,
                 ⟨(some 32), .fad 0 (.t 31), none, [], false⟩,
                 ⟨(some 33), .ld1 (.t 32), none, [], false⟩,
                 ⟨(some 34), .mv (.t 1), none, [], false⟩,
                 ⟨(some 35), .iad 6 (.t 34) (.k (.int .i64 0)), none, [], false⟩,
                 ⟨(some 36), .fad 0 (.t 35), none, [], false⟩,
                 ⟨(some 37), .fad 0 (.t 36), none, [], false⟩,
                 ⟨(some 38), .ld1 (.t 37), none, [], false⟩,
                 ⟨(some 39), .mnx true (.t 33) [(.t 38)], none, [], false⟩,
                 ⟨(some 8), .mv (.t 39), none, [], false⟩])
               (.skip)))
             (.seq (.seq (.reg [
                 ⟨(some 40), .mv (.t 8), none, [], false⟩,
                 ⟨(some 41), .mv (.t 0), none, [], false⟩,
                 ⟨(some 42), .mv (.t 0), none, [], false⟩,
                 ⟨(some 43), .lenv false (.t 42), none, [], false⟩,
                 ⟨(some 44), .bin .sub (.t 43) (.k (.int .i64 1)), none, [], false⟩,
                 ⟨(some 45), .iad 6 (.t 41) (.t 44), none, [], false⟩,
                 ⟨(some 46), .fad 0 (.t 45), none, [], false⟩,
                 ⟨(some 47), .fad 0 (.t 46), none, [], false⟩,
                 ⟨(some 48), .ld1 (.t 47), none, [], false⟩,
                 ⟨(some 49), .bin .gtr (.t 40) (.t 48), none, [], false⟩,
                 ⟨(some 50), .mv (.t 49), none, [], false⟩,
                 ⟨(some 51), .mv (.t 8), (some (50, false)), [], false⟩,
                 ⟨(some 52), .mv (.t 1), (some (50, false)), [], false⟩,
                 ⟨(some 53), .mv (.t 1), (some (50, false)), [], false⟩,
                 ⟨(some 54), .lenv false (.t 53), (some (50, false)), [], false⟩,
                 ⟨(some 55), .bin .sub (.t 54) (.k (.int .i64 1)), (some (50, false)), [], false⟩,
                 ⟨(some 56), .iad 6 (.t 52) (.t 55), (some (50, false)), [], false⟩,
                 ⟨(some 57), .fad 0 (.t 56), (some (50, false)), [], false⟩,
                 ⟨(some 58), .fad 0 (.t 57), (some (50, false)), [], false⟩,
                 ⟨(some 59), .ld1 (.t 58), (some (50, false)), [], false⟩,
                 ⟨(some 60), .bin .gtr (.t 51) (.t 59), (some (50, false)), [], false⟩,
                 ⟨(some 61), .pick (.t 50) (.k (.bool true)) (.t 60), none, [], false⟩])
               (.cond (.t 61) (.exit 0)
                (.skip)))
              (.seq (.reg [
                 ⟨(some 62), .mv (.t 0), none, [], false⟩,
                 ⟨(some 63), .mv (.t 8), none, [], false⟩,
                 ⟨(some 65), .mv (.t 1), none, [], false⟩,
                 ⟨(some 66), .mv (.t 8), none, [], false⟩,
                 ⟨(some 68), .ldn 2 (.t 5), none, [], false⟩,
                 ⟨(some 64), .call (.k (.fn 55 [])) [(.t 62), (.t 63)], none, [], true⟩,
                 ⟨(some 67), .call (.k (.fn 55 [])) [(.t 65), (.t 66)], none, [], true⟩,
                 ⟨(some 69), .call (.k (.fn 54 [])) [(.t 64), (.t 67), (.t 68)], none, [], false⟩,
                 ⟨(some 70), .un .not (.t 69), none, [], false⟩])
               (.cond (.t 70) (.reg [
                  ⟨(some 71), .mv (.t 7), none, [], false⟩,
                  ⟨(some 72), .mv (.t 8), none, [], false⟩,
                  ⟨(some 73), .mks [.int .i64 0] 1 1 [(0, 1, (.t 72))], none, [], false⟩,
                  ⟨(some 74), .app 1 8 (.t 71) (.t 73), none, [], false⟩,
                  ⟨(some 7), .mv (.t 74), none, [], false⟩])
                (.skip))))))
           (.reg [
             ⟨(some 11), .mv (.t 8), none, [], false⟩,
             ⟨(some 12), .bin .add (.t 11) (.k (.int .i64 1)), none, [], false⟩,
             ⟨(some 8), .mv (.t 12), none, [], false⟩]))))))
      (.seq (.reg [
         ⟨(some 75), .mv (.t 7), none, [], false⟩,
         ⟨(some 6), .mv (.t 75), none, [], false⟩])
       (.ret))))
/-- skyway/skywaylaw1.ProbePairs -/
def c4 : CF where
  np := 3
  nt := 127
  res := [.t 6]
  code := .seq (.reg [
      ⟨(some 5), .box (.t 2), none, [], false⟩,
      ⟨(some 6), .mv (.k (.bool false)), none, [], false⟩])
    (.seq (.seq (.reg [
        ⟨(some 15), .call (.k (.fn 15 [])) [], none, [], false⟩,
        ⟨(some 16), .un .not (.t 15), none, [], false⟩])
      (.cond (.t 16) (.seq (.reg [
          ⟨(some 6), .mv (.k (.bool false)), none, [], false⟩])
        (.ret))
       (.skip)))
     (.seq (.reg [
        ⟨(some 18), .mv (.t 0), none, [], false⟩,
        ⟨(some 19), .mv (.t 1), none, [], false⟩,
        ⟨(some 20), .ldn 2 (.t 5), none, [], false⟩,
        ⟨(some 21), .call (.k (.fn 16 [])) [(.t 18), (.t 19), (.t 20)], none, [], false⟩,
        ⟨(some 17), .mv (.t 21), none, [], false⟩,
        ⟨(some 22), .ext (.t 17) 0, none, [], false⟩,
        ⟨(some 23), .ext (.t 17) 1, none, [], false⟩,
        ⟨(some 7), .mv (.t 22), none, [], false⟩,
        ⟨(some 8), .mv (.t 23), none, [], false⟩])
      (.seq (.seq (.reg [
          ⟨(some 24), .ldn 2 (.t 5), none, [], false⟩,
          ⟨(some 25), .call (.k (.fn 17 [])) [(.t 24)], none, [], false⟩,
          ⟨(some 26), .bin .neq (.t 25) (.k (.int .i64 0)), none, [], false⟩,
          ⟨(some 27), .mv (.t 26), none, [], false⟩,
          ⟨(some 28), .mv (.t 0), (some (27, false)), [], false⟩,
          ⟨(some 29), .call (.k (.fn 18 [])) [(.t 28)], (some (27, false)), [], false⟩,
          ⟨(some 30), .bin .neq (.t 29) (.k (.int .i64 0)), (some (27, false)), [], false⟩,
          ⟨(some 31), .pick (.t 27) (.k (.bool true)) (.t 30), none, [], false⟩,
          ⟨(some 32), .mv (.t 31), none, [], false⟩,
          ⟨(some 33), .mv (.t 1), (some (32, false)), [], false⟩,
          ⟨(some 34), .call (.k (.fn 18 [])) [(.t 33)], (some (32, false)), [], false⟩,
          ⟨(some 35), .bin .neq (.t 34) (.k (.int .i64 0)), (some (32, false)), [], false⟩,
          ⟨(some 36), .pick (.t 32) (.k (.bool true)) (.t 35), none, [], false⟩])
        (.cond (.t 36) (.seq (.reg [
            ⟨(some 37), .mv (.t 8), none, [], false⟩,
            ⟨(some 38), .bin .neq (.t 37) (.k (.int .i64 0)), none, [], false⟩,
            ⟨(some 39), .mv (.t 38), none, [], false⟩,
            ⟨(some 40), .mv (.t 7), (some (39, true)), [], false⟩,
            ⟨(some 41), .lenv false (.t 40), (some (39, true)), [], false⟩,
            ⟨(some 42), .bin .eql (.t 41) (.k (.int .i64 0)), (some (39, true)), [], false⟩,
            ⟨(some 43), .pick (.t 39) (.t 42) (.k (.bool false)), none, [], false⟩,
            ⟨(some 6), .mv (.t 43), none, [], false⟩])
          (.ret))
         (.skip)))
       (.seq (.seq (.reg [
           ⟨(some 44), .mv (.t 0), none, [], false⟩,
           ⟨(some 45), .mv (.t 0), none, [], false⟩,
           ⟨(some 46), .lenv false (.t 45), none, [], false⟩,
           ⟨(some 47), .bin .sub (.t 46) (.k (.int .i64 1)), none, [], false⟩,
           ⟨(some 48), .iad 6 (.t 44) (.t 47), none, [], false⟩,
           ⟨(some 49), .fad 0 (.t 48), none, [], false⟩,
           ⟨(some 50), .fad 0 (.t 49), none, [], false⟩,
           ⟨(some 51), .ld1 (.t 50), none, [], false⟩,
           ⟨(some 52), .mv (.t 0), none, [], false⟩,
           ⟨(some 53), .iad 6 (.t 52) (.k (.int .i64 0)), none, [], false⟩,
           ⟨(some 54), .fad 0 (.t 53), none, [], false⟩,
           ⟨(some 55), .fad 0 (.t 54), none, [], false⟩,
           ⟨(some 56), .ld1 (.t 55), none, [], false⟩,
           ⟨(some 57), .bin .sub (.t 51) (.t 56), none, [], false⟩,
           ⟨(some 58), .bin .gtr (.t 57) (.k (.int .i64 4000)), none, [], false⟩])
         (.cond (.t 58) (.seq (.reg [
             ⟨(some 6), .mv (.k (.bool true)), none, [], false⟩])
           (.ret))
          (.skip)))
        (.seq (.reg [
           ⟨(some 9), .mv (.k (.sl true 0 0 0 0 0)), none, [], false⟩])
         (.seq (.seq (.reg [
             ⟨(some 59), .mv (.t 7), none, [], false⟩,
             ⟨(some 60), .lenv false (.t 59), none, [], false⟩,
             ⟨(some 61), .mv (.k (.int .i64 0)), none, [], false⟩])
           (.blk 0 (.loop (.seq (.reg [
                ⟨(some 62), .bin .lss (.t 61) (.t 60), none, [], false⟩])
              (.seq (.cond (.t 62) (.skip)
                (.exit 0))
               (.seq (.blk 1 (.seq (.reg [
                    ⟨(some 63), .mv (.t 61), none, [], false⟩,
                    ⟨(some 64), .iad 2 (.t 59) (.t 61), none, [], false⟩,
                    ⟨(some 65), .ldn 2 (.t 64), none, [], false⟩,
                    ⟨(some 11), .new [.int .i64 0, .int .i64 0], none, [], false⟩,
                    ⟨(some 10), .mv (.t 63), none, [], false⟩,
                    ⟨none, .st 2 (.t 11) (.t 65), none, [], false⟩])
                  (.seq (.seq (.reg [
                      ⟨(some 66), .fad 0 (.t 11), none, [], false⟩,
                      ⟨(some 67), .ld1 (.t 66), none, [], false⟩,
                      ⟨(some 68), .fad 1 (.t 11), none, [], false⟩,
                      ⟨(some 69), .ld1 (.t 68), none, [], false⟩,
                      ⟨(some 70), .bin .geq (.t 67) (.t 69), none, [], false⟩,
                      ⟨(some 71), .mv (.t 70), none, [], false⟩,
                      ⟨(some 72), .mv (.t 10), (some (71, false)), [], false⟩,
                      ⟨(some 73), .bin .gtr (.t 72) (.k (.int .i64 0)), (some (71, false)), [], false⟩,
                      ⟨(some 74), .mv (.t 73), (some (71, false)), [], false⟩,
                      ⟨(some 75), .fad 0 (.t 11), (some (74, true)), [], false⟩,
                      ⟨(some 76), .ld1 (.t 75), (some (74, true)), [], false⟩,
                      ⟨(some 77), .mv (.t 7), (some (74, true)), [], false⟩,
                      ⟨(some 78), .mv (.t 10), (some (74, true)), [], false⟩,
                      ⟨(some 79), .bin .sub (.t 78) (.k (.int .i64 1)), (some (74, true)), [], false⟩,
                      ⟨(some 80), .iad 2 (.t 77) (.t 79), (some (74, true)), [], false⟩,
                      ⟨(some 81), .fad 1 (.t 80), (some (74, true)), [], false⟩,
                      ⟨(some 82), .ld1 (.t 81), (some (74, true)), [], false⟩,
                      ⟨(some 83), .bin .leq (.t 76) (.t 82), (some (74, true)), [], false⟩,
                      ⟨(some 84), .pick (.t 74) (.t 83) (.k (.bool false)), (some (71, false)), [], false⟩,
                      ⟨(some 85), .pick (.t 71) (.k (.bool true)) (.t 84), none, [], false⟩])
                    (.cond (.t 85) (.seq (.reg [
                        ⟨(some 6), .mv (.k (.bool false)), none, [], false⟩])
                      (.ret))
                     (.skip)))
                   (.seq (.reg [
                      ⟨(some 86), .fad 0 (.t 11), none, [], false⟩,
                      ⟨(some 87), .ld1 (.t 86), none, [], false⟩,
                      ⟨(some 12), .mv (.t 87), none, [], false⟩])
                    (.blk 2 (.loop (.seq (.seq (.reg [
                          ⟨(some 88), .mv (.t 12), none, [], false⟩,
                          ⟨(some 89), .fad 1 (.t 11), none, [], false⟩,
                          ⟨(some 90), .ld1 (.t 89), none, [], false⟩,
                          ⟨(some 91), .bin .lss (.t 88) (.t 90), none, [], false⟩])
                        (.cond (.t 91) (.skip)
                         (.exit 2)))
                       (.seq (.blk 3 (.reg [
                           ⟨(some 94), .mv (.t 9), none, [], false⟩,
                           ⟨(some 95), .mv (.t 12), none, [], false⟩,
                           ⟨(some 96), .mks [.int .i64 0] 1 1 [(0, 1, (.t 95))], none, [], false⟩,
                           ⟨(some 97), .app 1 8 (.t 94) (.t 96), none, [], false⟩,
                           ⟨(some 9), .mv (.t 97), none, [], false⟩]))
                        (.reg [
                          ⟨(some 92), .mv (.t 12), none, [], false⟩,
                          ⟨(some 93), .bin .add (.t 92) (.k (.int .i64 1)), none, [], false⟩,
                          ⟨(some 12), .mv (.t 93), none, [], false⟩])))))))))
                (.reg [
                  ⟨(some 98), .bin .add (.t 61) (.k (.int .i64 1)), none, [], false⟩,
                  ⟨(some 61), .mv (.t 98), none, [], false⟩])))))))
          (.seq (.reg [
             ⟨(some 99), .mv (.t 0), none, [], false⟩,
             ⟨(some 100), .mv (.t 1), none, [], false⟩,
             ⟨(some 101), .ldn 2 (.t 5), none, [], false⟩,
             ⟨(some 102), .call (.k (.fn 19 [])) [(.t 99), (.t 100), (.t 101)], none, [], false⟩,
             ⟨(some 13), .mv (.t 102), none, [], false⟩])
           (.seq (.seq (.reg [
               ⟨(some 103), .mv (.t 8), none, [], false⟩,
               ⟨(some 104), .bin .neq (.t 103) (.k (.int .i64 0)), none, [], false⟩,
               ⟨(some 105), .mv (.t 104), none, [], false⟩,
               ⟨(some 106), .mv (.t 9), (some (105, false)), [], false⟩,
               ⟨(some 107), .lenv false (.t 106), (some (105, false)), [], false⟩,
               ⟨(some 108), .mv (.t 13), (some (105, false)), [], false⟩,
               ⟨(some 109), .lenv false (.t 108), (some (105, false)), [], false⟩,
               ⟨(some 110), .bin .neq (.t 107) (.t 109), (some (105, false)), [], false⟩,
               ⟨(some 111), .pick (.t 105) (.k (.bool true)) (.t 110), none, [], false⟩])
             (.cond (.t 111) (.seq (.reg [
                 ⟨(some 6), .mv (.k (.bool false)), none, [], false⟩])
               (.ret))
              (.skip)))
            (.seq (.seq (.reg [
                ⟨(some 112), .mv (.t 13), none, [], false⟩,
                ⟨(some 113), .lenv false (.t 112), none, [], false⟩,
                ⟨(some 114), .mv (.k (.int .i64 0)), none, [], false⟩])
              (.blk 4 (.loop (.seq (.reg [
                   ⟨(some 115), .bin .lss (.t 114) (.t 113), none, [], false⟩])
                 (.seq (.cond (.t 115) (.skip)
                   (.exit 4))
                  (.seq (.blk 5 (.seq (.reg [
                       ⟨(some 116), .mv (.t 114), none, [], false⟩,
                       ⟨(some 14), .mv (.t 116), none, [], false⟩])
                     (.seq (.reg [
                        ⟨(some 117), .mv (.t 9), none, [], false⟩,
                        ⟨(some 118), .mv (.t 14), none, [], false⟩,
                        ⟨(some 119), .iad 1 (.t 117) (.t 118), none, [], false⟩,
                        ⟨(some 120), .ld1 (.t 119), none, [], false⟩,
                        ⟨(some 121), .mv (.t 13), none, [], false⟩,
                        ⟨(some 122), .mv (.t 14), none, [], false⟩,
                        ⟨(some 123), .iad 1 (.t 121) (.t 122), none, [], false⟩,
                        ⟨(some 124), .ld1 (.t 123), none, [], false⟩,
                        ⟨(some 125), .bin .neq (.t 120) (.t 124), none, [], false⟩])
                      (.cond (.t 125) (.seq (.reg [
                          ⟨(some 6), .mv (.k (.bool false)), none, [], false⟩])
                        (.ret))
                       (.skip)))))
                   (.reg [
                     ⟨(some 126), .bin .add (.t 114) (.k (.int .i64 1)), none, [], false⟩,
                     ⟨(some 114), .mv (.t 126), none, [], false⟩])))))))
             (.seq (.reg [
                ⟨(some 6), .mv (.k (.bool true)), none, [], false⟩])
              (.ret)))))))))))
theorem ok50 : cFunc Try.prog Try.f50 = some c50 := by kernel_rfl
theorem ok17 : cFunc Try.prog Try.f17 = some c17 := by kernel_rfl
theorem ok53 : cFunc Try.prog Try.f53 = some c53 := by kernel_rfl
theorem ok18 : cFunc Try.prog Try.f18 = some c18 := by kernel_rfl
theorem ok51 : cFunc Try.prog Try.f51 = some c51 := by kernel_rfl
theorem ok90 : cFunc Try.prog Try.f90 = some c90 := by kernel_rfl
theorem ok121 : cFunc Try.prog Try.f121 = some c121 := by kernel_rfl
theorem ok101 : cFunc Try.prog Try.f101 = some c101 := by kernel_rfl
theorem ok102 : cFunc Try.prog Try.f102 = some c102 := by kernel_rfl
theorem ok122 : cFunc Try.prog Try.f122 = some c122 := by kernel_rfl
theorem ok103 : cFunc Try.prog Try.f103 = some c103 := by kernel_rfl
theorem ok66 : cFunc Try.prog Try.f66 = some c66 := by kernel_rfl
theorem ok91 : cFunc Try.prog Try.f91 = some c91 := by kernel_rfl
theorem ok172 : cFunc Try.prog Try.f172 = some c172 := by kernel_rfl
theorem ok173 : cFunc Try.prog Try.f173 = some c173 := by kernel_rfl
theorem ok164 : cFunc Try.prog Try.f164 = some c164 := by kernel_rfl
theorem ok174 : cFunc Try.prog Try.f174 = some c174 := by kernel_rfl
theorem ok165 : cFunc Try.prog Try.f165 = some c165 := by kernel_rfl
theorem ok141 : cFunc Try.prog Try.f141 = some c141 := by kernel_rfl
theorem ok113 : cFunc Try.prog Try.f113 = some c113 := by kernel_rfl
theorem ok92 : cFunc Try.prog Try.f92 = some c92 := by kernel_rfl
theorem ok52 : cFunc Try.prog Try.f52 = some c52 := by kernel_rfl
theorem ok16 : cFunc Try.prog Try.f16 = some c16 := by kernel_rfl
theorem ok15 : cFunc Try.prog Try.f15 = some c15 := by kernel_rfl
theorem ok114 : cFunc Try.prog Try.f114 = some c114 := by kernel_rfl
theorem ok95 : cFunc Try.prog Try.f95 = some c95 := by kernel_rfl
theorem ok115 : cFunc Try.prog Try.f115 = some c115 := by kernel_rfl
theorem ok96 : cFunc Try.prog Try.f96 = some c96 := by kernel_rfl
theorem ok55 : cFunc Try.prog Try.f55 = some c55 := by kernel_rfl
theorem ok93 : cFunc Try.prog Try.f93 = some c93 := by kernel_rfl
theorem ok94 : cFunc Try.prog Try.f94 = some c94 := by kernel_rfl
theorem ok54 : cFunc Try.prog Try.f54 = some c54 := by kernel_rfl
theorem ok19 : cFunc Try.prog Try.f19 = some c19 := by kernel_rfl
theorem ok4 : cFunc Try.prog Try.f4 = some c4 := by kernel_rfl
end Go.Proofs.Ytaekgifbehoipaa.CodeAll
