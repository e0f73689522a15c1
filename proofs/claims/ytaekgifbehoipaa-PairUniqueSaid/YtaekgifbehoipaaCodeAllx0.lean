/- The code of functions of the program, for the abstract machine; each is what the function is turned into. No condition. -/
import Derived.Test.YtaekgifbehoipaaEvaO
import Derived.Test.YtaekgifbehoipaaChecked
import Derived.KernelRfl
namespace Go.Proofs.Ytaekgifbehoipaa.CodeAll
open Go Go.Proofs.Ytaekgifbehoipaa.Eva
/-- skyway/skywaykeep2.line -/
def c26 : CF where
  np := 2
  nt := 15
  res := [.t 4]
  code := .seq (.reg [
      ⟨(some 4), .mv (.k (.sl true 0 0 0 0 0)), none, [], false⟩])
    (.seq (.reg [
       ⟨(some 5), .mk [.int .i64 0, .int .i64 0, .int .i64 0, .int .i64 0] [(3, 1, (.k (.int .i64 5000)))], none, [], false⟩,
       ⟨(some 6), .mv (.t 0), none, [], false⟩,
       ⟨(some 7), .mv (.t 1), none, [], false⟩,
       ⟨(some 8), .mk [.int .i64 0, .int .i64 0, .int .i64 0, .int .i64 0, .int .i64 0, .int .i64 0] [(0, 4, (.t 5)), (4, 1, (.t 6)), (5, 1, (.t 7))], none, [], false⟩,
       ⟨(some 9), .mk [.int .i64 0, .int .i64 0] [(0, 1, (.k (.int .i64 20000)))], none, [], false⟩,
       ⟨(some 10), .mk [.int .i64 0, .int .i64 0, .int .i64 0, .int .i64 0] [(0, 1, (.k (.int .i64 100))), (1, 2, (.t 9)), (3, 1, (.k (.int .i64 5000)))], none, [], false⟩,
       ⟨(some 11), .mv (.t 0), none, [], false⟩,
       ⟨(some 12), .mv (.t 1), none, [], false⟩,
       ⟨(some 13), .mk [.int .i64 0, .int .i64 0, .int .i64 0, .int .i64 0, .int .i64 0, .int .i64 0] [(0, 4, (.t 10)), (4, 1, (.t 11)), (5, 1, (.t 12))], none, [], false⟩,
       ⟨(some 14), .mks [.int .i64 0, .int .i64 0, .int .i64 0, .int .i64 0, .int .i64 0, .int .i64 0, .int .i64 0, .int .i64 0, .int .i64 0, .int .i64 0, .int .i64 0, .int .i64 0] 6 2 [(0, 6, (.t 8)), (6, 6, (.t 13))], none, [], false⟩,
       ⟨(some 4), .mv (.t 14), none, [], false⟩])
     (.ret))
/-- skyway/plane.Check -/
def c53 : CF where
  np := 1
  nt := 21
  res := [.t 2]
  code := .seq (.reg [
      ⟨(some 1), .box (.t 0), none, [], false⟩,
      ⟨(some 2), .mv (.k (.int .i64 0)), none, [], false⟩])
    (.seq (.seq (.reg [
        ⟨(some 3), .fad 0 (.t 1), none, [], false⟩,
        ⟨(some 4), .ld1 (.t 3), none, [], false⟩,
        ⟨(some 5), .bin .lss (.t 4) (.k (.int .i64 (-1000000))), none, [], false⟩,
        ⟨(some 6), .mv (.t 5), none, [], false⟩,
        ⟨(some 7), .fad 0 (.t 1), (some (6, false)), [], false⟩,
        ⟨(some 8), .ld1 (.t 7), (some (6, false)), [], false⟩,
        ⟨(some 9), .bin .gtr (.t 8) (.k (.int .i64 1000000)), (some (6, false)), [], false⟩,
        ⟨(some 10), .pick (.t 6) (.k (.bool true)) (.t 9), none, [], false⟩,
        ⟨(some 11), .mv (.t 10), none, [], false⟩,
        ⟨(some 12), .fad 1 (.t 1), (some (11, false)), [], false⟩,
        ⟨(some 13), .ld1 (.t 12), (some (11, false)), [], false⟩,
        ⟨(some 14), .bin .lss (.t 13) (.k (.int .i64 (-1000000))), (some (11, false)), [], false⟩,
        ⟨(some 15), .pick (.t 11) (.k (.bool true)) (.t 14), none, [], false⟩,
        ⟨(some 16), .mv (.t 15), none, [], false⟩,
        ⟨(some 17), .fad 1 (.t 1), (some (16, false)), [], false⟩,
        ⟨(some 18), .ld1 (.t 17), (some (16, false)), [], false⟩,
        ⟨(some 19), .bin .gtr (.t 18) (.k (.int .i64 1000000)), (some (16, false)), [], false⟩,
        ⟨(some 20), .pick (.t 16) (.k (.bool true)) (.t 19), none, [], false⟩])
      (.cond (.t 20) (.seq (.reg [
          ⟨(some 2), .mv (.k (.int .i64 4)), none, [], false⟩])
        (.ret))
       (.skip)))
     (.seq (.reg [
        ⟨(some 2), .mv (.k (.int .i64 0)), none, [], false⟩])
      (.ret)))
/-- skyway/tube.Check -/
def c18 : CF where
  np := 1
  nt := 86
  res := [.t 2]
  code := .seq (.reg [
      ⟨(some 2), .mv (.k (.int .i64 0)), none, [], false⟩])
    (.seq (.blk 0 (.seq (.reg [
         ⟨(some 7), .mv (.t 0), none, [], false⟩,
         ⟨(some 8), .lenv false (.t 7), none, [], false⟩,
         ⟨(some 9), .bin .gtr (.t 8) (.k (.int .i64 64)), none, [], false⟩,
         ⟨(some 6), .mv (.t 9), none, [], false⟩])
       (.cond (.t 6) (.seq (.reg [
           ⟨(some 2), .mv (.k (.int .i64 2)), none, [], false⟩])
         (.ret))
        (.seq (.reg [
           ⟨(some 11), .mv (.t 0), none, [], false⟩,
           ⟨(some 12), .lenv false (.t 11), none, [], false⟩,
           ⟨(some 13), .bin .eql (.t 12) (.k (.int .i64 0)), none, [], false⟩,
           ⟨(some 10), .mv (.t 13), none, [], false⟩])
         (.cond (.t 10) (.seq (.reg [
             ⟨(some 2), .mv (.k (.int .i64 3)), none, [], false⟩])
           (.ret))
          (.skip))))))
     (.seq (.seq (.reg [
         ⟨(some 14), .mv (.t 0), none, [], false⟩,
         ⟨(some 15), .lenv false (.t 14), none, [], false⟩,
         ⟨(some 16), .mv (.k (.int .i64 0)), none, [], false⟩])
       (.blk 1 (.loop (.seq (.reg [
            ⟨(some 17), .bin .lss (.t 16) (.t 15), none, [], false⟩])
          (.seq (.cond (.t 17) (.skip)
            (.exit 1))
           (.seq (.blk 2 (.seq (.reg [
                ⟨(some 18), .mv (.t 16), none, [], false⟩,
                ⟨(some 19), .iad 6 (.t 14) (.t 16), none, [], false⟩,
                ⟨(some 20), .ldn 6 (.t 19), none, [], false⟩,
                ⟨(some 4), .new [.int .i64 0, .int .i64 0, .int .i64 0, .int .i64 0, .int .i64 0, .int .i64 0], none, [], false⟩,
                ⟨(some 3), .mv (.t 18), none, [], false⟩,
                ⟨none, .st 6 (.t 4) (.t 20), none, [], false⟩])
              (.seq (.seq (.reg [
                  ⟨(some 21), .fad 0 (.t 4), none, [], false⟩,
                  ⟨(some 22), .fad 0 (.t 21), none, [], false⟩,
                  ⟨(some 23), .ld1 (.t 22), none, [], false⟩,
                  ⟨(some 24), .bin .lss (.t 23) (.k (.int .i64 0)), none, [], false⟩,
                  ⟨(some 25), .mv (.t 24), none, [], false⟩,
                  ⟨(some 26), .fad 0 (.t 4), (some (25, false)), [], false⟩,
                  ⟨(some 27), .fad 0 (.t 26), (some (25, false)), [], false⟩,
                  ⟨(some 28), .ld1 (.t 27), (some (25, false)), [], false⟩,
                  ⟨(some 29), .bin .gtr (.t 28) (.k (.int .i64 200000)), (some (25, false)), [], false⟩,
                  ⟨(some 30), .pick (.t 25) (.k (.bool true)) (.t 29), none, [], false⟩,
                  ⟨(some 31), .mv (.t 30), none, [], false⟩,
                  ⟨(some 32), .mv (.t 3), (some (31, false)), [], false⟩,
                  ⟨(some 33), .bin .gtr (.t 32) (.k (.int .i64 0)), (some (31, false)), [], false⟩,
                  ⟨(some 34), .mv (.t 33), (some (31, false)), [], false⟩,
                  ⟨(some 35), .fad 0 (.t 4), (some (34, true)), [], false⟩,
                  ⟨(some 36), .fad 0 (.t 35), (some (34, true)), [], false⟩,
                  ⟨(some 37), .ld1 (.t 36), (some (34, true)), [], false⟩,
                  ⟨(some 38), .mv (.t 0), (some (34, true)), [], false⟩,
                  ⟨(some 39), .mv (.t 3), (some (34, true)), [], false⟩,
                  ⟨(some 40), .bin .sub (.t 39) (.k (.int .i64 1)), (some (34, true)), [], false⟩,
                  ⟨(some 41), .iad 6 (.t 38) (.t 40), (some (34, true)), [], false⟩,
                  ⟨(some 42), .fad 0 (.t 41), (some (34, true)), [], false⟩,
                  ⟨(some 43), .fad 0 (.t 42), (some (34, true)), [], false⟩,
                  ⟨(some 44), .ld1 (.t 43), (some (34, true)), [], false⟩,
                  ⟨(some 45), .bin .leq (.t 37) (.t 44), (some (34, true)), [], false⟩,
                  ⟨(some 46), .pick (.t 34) (.t 45) (.k (.bool false)), (some (31, false)), [], false⟩,
                  ⟨(some 47), .pick (.t 31) (.k (.bool true)) (.t 46), none, [], false⟩])
                (.cond (.t 47) (.seq (.reg [
                    ⟨(some 2), .mv (.k (.int .i64 12)), none, [], false⟩])
                  (.ret))
                 (.skip)))
               (.seq (.seq (.reg [
                   ⟨(some 48), .fad 0 (.t 4), none, [], false⟩,
                   ⟨(some 49), .fad 1 (.t 48), none, [], false⟩,
                   ⟨(some 50), .ldn 2 (.t 49), none, [], false⟩,
                   ⟨(some 51), .call (.k (.fn 53 [])) [(.t 50)], none, [], false⟩,
                   ⟨(some 5), .mv (.t 51), none, [], false⟩])
                 (.seq (.reg [
                    ⟨(some 52), .mv (.t 5), none, [], false⟩,
                    ⟨(some 53), .bin .neq (.t 52) (.k (.int .i64 0)), none, [], false⟩])
                  (.cond (.t 53) (.seq (.reg [
                      ⟨(some 54), .mv (.t 5), none, [], false⟩,
                      ⟨(some 2), .mv (.t 54), none, [], false⟩])
                    (.ret))
                   (.skip))))
                (.seq (.reg [
                   ⟨(some 55), .fad 0 (.t 4), none, [], false⟩,
                   ⟨(some 56), .fad 3 (.t 55), none, [], false⟩,
                   ⟨(some 57), .ld1 (.t 56), none, [], false⟩,
                   ⟨(some 58), .bin .lss (.t 57) (.k (.int .i64 0)), none, [], false⟩,
                   ⟨(some 59), .mv (.t 58), none, [], false⟩,
                   ⟨(some 60), .fad 0 (.t 4), (some (59, false)), [], false⟩,
                   ⟨(some 61), .fad 3 (.t 60), (some (59, false)), [], false⟩,
                   ⟨(some 62), .ld1 (.t 61), (some (59, false)), [], false⟩,
                   ⟨(some 63), .bin .gtr (.t 62) (.k (.int .i64 60000)), (some (59, false)), [], false⟩,
                   ⟨(some 64), .pick (.t 59) (.k (.bool true)) (.t 63), none, [], false⟩,
                   ⟨(some 65), .mv (.t 64), none, [], false⟩,
                   ⟨(some 66), .fad 4 (.t 4), (some (65, false)), [], false⟩,
                   ⟨(some 67), .ld1 (.t 66), (some (65, false)), [], false⟩,
                   ⟨(some 68), .bin .lss (.t 67) (.k (.int .i64 0)), (some (65, false)), [], false⟩,
                   ⟨(some 69), .pick (.t 65) (.k (.bool true)) (.t 68), none, [], false⟩,
                   ⟨(some 70), .mv (.t 69), none, [], false⟩,
                   ⟨(some 71), .fad 4 (.t 4), (some (70, false)), [], false⟩,
                   ⟨(some 72), .ld1 (.t 71), (some (70, false)), [], false⟩,
                   ⟨(some 73), .bin .gtr (.t 72) (.k (.int .i64 1000000)), (some (70, false)), [], false⟩,
                   ⟨(some 74), .pick (.t 70) (.k (.bool true)) (.t 73), none, [], false⟩,
                   ⟨(some 75), .mv (.t 74), none, [], false⟩,
                   ⟨(some 76), .fad 5 (.t 4), (some (75, false)), [], false⟩,
                   ⟨(some 77), .ld1 (.t 76), (some (75, false)), [], false⟩,
                   ⟨(some 78), .bin .lss (.t 77) (.k (.int .i64 0)), (some (75, false)), [], false⟩,
                   ⟨(some 79), .pick (.t 75) (.k (.bool true)) (.t 78), none, [], false⟩,
                   ⟨(some 80), .mv (.t 79), none, [], false⟩,
                   ⟨(some 81), .fad 5 (.t 4), (some (80, false)), [], false⟩,
                   ⟨(some 82), .ld1 (.t 81), (some (80, false)), [], false⟩,
                   ⟨(some 83), .bin .gtr (.t 82) (.k (.int .i64 60000)), (some (80, false)), [], false⟩,
                   ⟨(some 84), .pick (.t 80) (.k (.bool true)) (.t 83), none, [], false⟩])
                 (.cond (.t 84) (.seq (.reg [
                     ⟨(some 2), .mv (.k (.int .i64 4)), none, [], false⟩])
                   (.ret))
                  (.skip)))))))
            (.reg [
              ⟨(some 85), .bin .add (.t 16) (.k (.int .i64 1)), none, [], false⟩,
              ⟨(some 16), .mv (.t 85), none, [], false⟩])))))))
      (.seq (.reg [
         ⟨(some 2), .mv (.k (.int .i64 0)), none, [], false⟩])
       (.ret))))
/-- skyway/pair.Check -/
def c65 : CF where
  np := 2
  nt := 41
  res := [.t 4]
  code := .seq (.reg [
      ⟨(some 4), .mv (.k (.int .i64 0)), none, [], false⟩])
    (.seq (.seq (.reg [
        ⟨(some 8), .mv (.t 0), none, [], false⟩,
        ⟨(some 9), .lenv false (.t 8), none, [], false⟩,
        ⟨(some 10), .bin .gtr (.t 9) (.k (.int .i64 24)), none, [], false⟩])
      (.cond (.t 10) (.seq (.reg [
          ⟨(some 4), .mv (.k (.int .i64 2)), none, [], false⟩])
        (.ret))
       (.skip)))
     (.seq (.seq (.reg [
         ⟨(some 11), .mv (.t 1), none, [], false⟩,
         ⟨(some 12), .lenv false (.t 11), none, [], false⟩,
         ⟨(some 13), .mv (.t 0), none, [], false⟩,
         ⟨(some 14), .lenv false (.t 13), none, [], false⟩,
         ⟨(some 15), .bin .neq (.t 12) (.t 14), none, [], false⟩])
       (.cond (.t 15) (.seq (.reg [
           ⟨(some 4), .mv (.k (.int .i64 3)), none, [], false⟩])
         (.ret))
        (.skip)))
      (.seq (.seq (.reg [
          ⟨(some 16), .mv (.t 0), none, [], false⟩,
          ⟨(some 17), .lenv false (.t 16), none, [], false⟩,
          ⟨(some 18), .mv (.k (.int .i64 0)), none, [], false⟩])
        (.blk 0 (.loop (.seq (.reg [
             ⟨(some 19), .bin .lss (.t 18) (.t 17), none, [], false⟩])
           (.seq (.cond (.t 19) (.skip)
             (.exit 0))
            (.seq (.blk 1 (.seq (.reg [
                 ⟨(some 20), .mv (.t 18), none, [], false⟩,
                 ⟨(some 21), .iad 1 (.t 16) (.t 18), none, [], false⟩,
                 ⟨(some 22), .ld1 (.t 21), none, [], false⟩,
                 ⟨(some 5), .mv (.t 20), none, [], false⟩,
                 ⟨(some 6), .mv (.t 22), none, [], false⟩])
               (.seq (.seq (.reg [
                   ⟨(some 23), .mv (.t 6), none, [], false⟩,
                   ⟨(some 24), .call (.k (.fn 18 [])) [(.t 23)], none, [], false⟩,
                   ⟨(some 7), .mv (.t 24), none, [], false⟩])
                 (.seq (.reg [
                    ⟨(some 25), .mv (.t 7), none, [], false⟩,
                    ⟨(some 26), .bin .neq (.t 25) (.k (.int .i64 0)), none, [], false⟩])
                  (.cond (.t 26) (.seq (.reg [
                      ⟨(some 27), .mv (.t 7), none, [], false⟩,
                      ⟨(some 4), .mv (.t 27), none, [], false⟩])
                    (.ret))
                   (.skip))))
                (.seq (.reg [
                   ⟨(some 28), .mv (.t 1), none, [], false⟩,
                   ⟨(some 29), .mv (.t 5), none, [], false⟩,
                   ⟨(some 30), .iad 1 (.t 28) (.t 29), none, [], false⟩,
                   ⟨(some 31), .ld1 (.t 30), none, [], false⟩,
                   ⟨(some 32), .bin .lss (.t 31) (.k (.int .i64 0)), none, [], false⟩,
                   ⟨(some 33), .mv (.t 32), none, [], false⟩,
                   ⟨(some 34), .mv (.t 1), (some (33, false)), [], false⟩,
                   ⟨(some 35), .mv (.t 5), (some (33, false)), [], false⟩,
                   ⟨(some 36), .iad 1 (.t 34) (.t 35), (some (33, false)), [], false⟩,
                   ⟨(some 37), .ld1 (.t 36), (some (33, false)), [], false⟩,
                   ⟨(some 38), .bin .gtr (.t 37) (.k (.int .i64 4095)), (some (33, false)), [], false⟩,
                   ⟨(some 39), .pick (.t 33) (.k (.bool true)) (.t 38), none, [], false⟩])
                 (.cond (.t 39) (.seq (.reg [
                     ⟨(some 4), .mv (.k (.int .i64 4)), none, [], false⟩])
                   (.ret))
                  (.skip))))))
             (.reg [
               ⟨(some 40), .bin .add (.t 18) (.k (.int .i64 1)), none, [], false⟩,
               ⟨(some 18), .mv (.t 40), none, [], false⟩])))))))
       (.seq (.reg [
          ⟨(some 4), .mv (.k (.int .i64 0)), none, [], false⟩])
        (.ret)))))
/-- skyway/pair.checkTrack -/
def c63 : CF where
  np := 1
  nt := 65
  res := [.t 2]
  code := .seq (.reg [
      ⟨(some 1), .box (.t 0), none, [], false⟩,
      ⟨(some 2), .mv (.k (.int .i64 0)), none, [], false⟩])
    (.seq (.seq (.reg [
        ⟨(some 3), .fad 2 (.t 1), none, [], false⟩,
        ⟨(some 4), .ld1 (.t 3), none, [], false⟩,
        ⟨(some 5), .bin .lss (.t 4) (.k (.int .i64 0)), none, [], false⟩,
        ⟨(some 6), .mv (.t 5), none, [], false⟩,
        ⟨(some 7), .fad 2 (.t 1), (some (6, false)), [], false⟩,
        ⟨(some 8), .ld1 (.t 7), (some (6, false)), [], false⟩,
        ⟨(some 9), .bin .gtr (.t 8) (.k (.int .i64 200000)), (some (6, false)), [], false⟩,
        ⟨(some 10), .pick (.t 6) (.k (.bool true)) (.t 9), none, [], false⟩,
        ⟨(some 11), .mv (.t 10), none, [], false⟩,
        ⟨(some 12), .fad 3 (.t 1), (some (11, false)), [], false⟩,
        ⟨(some 13), .fad 0 (.t 12), (some (11, false)), [], false⟩,
        ⟨(some 14), .ld1 (.t 13), (some (11, false)), [], false⟩,
        ⟨(some 15), .bin .lss (.t 14) (.k (.int .i64 (-1000000))), (some (11, false)), [], false⟩,
        ⟨(some 16), .pick (.t 11) (.k (.bool true)) (.t 15), none, [], false⟩,
        ⟨(some 17), .mv (.t 16), none, [], false⟩,
        ⟨(some 18), .fad 3 (.t 1), (some (17, false)), [], false⟩,
        ⟨(some 19), .fad 0 (.t 18), (some (17, false)), [], false⟩,
        ⟨(some 20), .ld1 (.t 19), (some (17, false)), [], false⟩,
        ⟨(some 21), .bin .gtr (.t 20) (.k (.int .i64 1000000)), (some (17, false)), [], false⟩,
        ⟨(some 22), .pick (.t 17) (.k (.bool true)) (.t 21), none, [], false⟩,
        ⟨(some 23), .mv (.t 22), none, [], false⟩,
        ⟨(some 24), .fad 3 (.t 1), (some (23, false)), [], false⟩,
        ⟨(some 25), .fad 1 (.t 24), (some (23, false)), [], false⟩,
        ⟨(some 26), .ld1 (.t 25), (some (23, false)), [], false⟩,
        ⟨(some 27), .bin .lss (.t 26) (.k (.int .i64 (-1000000))), (some (23, false)), [], false⟩,
        ⟨(some 28), .pick (.t 23) (.k (.bool true)) (.t 27), none, [], false⟩,
        ⟨(some 29), .mv (.t 28), none, [], false⟩,
        ⟨(some 30), .fad 3 (.t 1), (some (29, false)), [], false⟩,
        ⟨(some 31), .fad 1 (.t 30), (some (29, false)), [], false⟩,
        ⟨(some 32), .ld1 (.t 31), (some (29, false)), [], false⟩,
        ⟨(some 33), .bin .gtr (.t 32) (.k (.int .i64 1000000)), (some (29, false)), [], false⟩,
        ⟨(some 34), .pick (.t 29) (.k (.bool true)) (.t 33), none, [], false⟩,
        ⟨(some 35), .mv (.t 34), none, [], false⟩,
        ⟨(some 36), .fad 7 (.t 1), (some (35, false)), [], false⟩,
        ⟨(some 37), .ld1 (.t 36), (some (35, false)), [], false⟩,
        ⟨(some 38), .bin .lss (.t 37) (.k (.int .i64 0)), (some (35, false)), [], false⟩,
        ⟨(some 39), .pick (.t 35) (.k (.bool true)) (.t 38), none, [], false⟩,
        ⟨(some 40), .mv (.t 39), none, [], false⟩,
        ⟨(some 41), .fad 7 (.t 1), (some (40, false)), [], false⟩,
        ⟨(some 42), .ld1 (.t 41), (some (40, false)), [], false⟩,
        ⟨(some 43), .bin .gtr (.t 42) (.k (.int .i64 60000)), (some (40, false)), [], false⟩,
        ⟨(some 44), .pick (.t 40) (.k (.bool true)) (.t 43), none, [], false⟩,
        ⟨(some 45), .mv (.t 44), none, [], false⟩,
        ⟨(some 46), .fad 9 (.t 1), (some (45, false)), [], false⟩,
        ⟨(some 47), .ld1 (.t 46), (some (45, false)), [], false⟩,
        ⟨(some 48), .bin .lss (.t 47) (.k (.int .i64 0)), (some (45, false)), [], false⟩,
        ⟨(some 49), .pick (.t 45) (.k (.bool true)) (.t 48), none, [], false⟩,
        ⟨(some 50), .mv (.t 49), none, [], false⟩,
        ⟨(some 51), .fad 9 (.t 1), (some (50, false)), [], false⟩,
        ⟨(some 52), .ld1 (.t 51), (some (50, false)), [], false⟩,
        ⟨(some 53), .bin .gtr (.t 52) (.k (.int .i64 4000000)), (some (50, false)), [], false⟩,
        ⟨(some 54), .pick (.t 50) (.k (.bool true)) (.t 53), none, [], false⟩,
        ⟨(some 55), .mv (.t 54), none, [], false⟩,
        ⟨(some 56), .fad 10 (.t 1), (some (55, false)), [], false⟩,
        ⟨(some 57), .ld1 (.t 56), (some (55, false)), [], false⟩,
        ⟨(some 58), .bin .lss (.t 57) (.k (.int .i64 (-1))), (some (55, false)), [], false⟩,
        ⟨(some 59), .pick (.t 55) (.k (.bool true)) (.t 58), none, [], false⟩,
        ⟨(some 60), .mv (.t 59), none, [], false⟩,
        ⟨(some 61), .fad 10 (.t 1), (some (60, false)), [], false⟩,
        ⟨(some 62), .ld1 (.t 61), (some (60, false)), [], false⟩,
        ⟨(some 63), .bin .gtr (.t 62) (.k (.int .i64 4095)), (some (60, false)), [], false⟩,
        ⟨(some 64), .pick (.t 60) (.k (.bool true)) (.t 63), none, [], false⟩])
      (.cond (.t 64) (.seq (.reg [
          ⟨(some 2), .mv (.k (.int .i64 4)), none, [], false⟩])
        (.ret))
       (.skip)))
     (.seq (.reg [
        ⟨(some 2), .mv (.k (.int .i64 0)), none, [], false⟩])
      (.ret)))
/-- skyway/num.DivDown -/
def c121 : CF where
  np := 2
  nt := 34
  res := [.t 4, .t 5]
  code := .seq (.reg [
      ⟨(some 4), .mv (.k (.int .i64 0)), none, [], false⟩,
      ⟨(some 5), .mv (.k (.int .i64 0)), none, [], false⟩])
    (.seq (.blk 0 (.seq (.reg [
         ⟨(some 8), .mv (.t 1), none, [], false⟩,
         ⟨(some 9), .bin .eql (.t 8) (.k (.int .i64 0)), none, [], false⟩,
         ⟨(some 7), .mv (.t 9), none, [], false⟩])
       (.cond (.t 7) (.seq (.reg [
           ⟨(some 4), .mv (.k (.int .i64 0)), none, [], false⟩,
           ⟨(some 5), .mv (.k (.int .i64 10)), none, [], false⟩])
         (.ret))
        (.seq (.reg [
           ⟨(some 11), .mv (.t 0), none, [], false⟩,
           ⟨(some 12), .bin .eql (.t 11) (.k (.int .i64 (-9223372036854775808))), none, [], false⟩,
           ⟨(some 13), .mv (.t 12), none, [], false⟩,
           ⟨(some 14), .mv (.t 1), (some (13, true)), [], false⟩,
           ⟨(some 15), .bin .eql (.t 14) (.k (.int .i64 (-1))), (some (13, true)), [], false⟩,
           ⟨(some 16), .pick (.t 13) (.t 15) (.k (.bool false)), none, [], false⟩,
           ⟨(some 10), .mv (.t 16), none, [], false⟩])
         (.cond (.t 10) (.seq (.reg [
             ⟨(some 4), .mv (.k (.int .i64 0)), none, [], false⟩,
             ⟨(some 5), .mv (.k (.int .i64 2)), none, [], false⟩])
           (.ret))
          (.skip))))))
     (.seq (.reg [
        ⟨(some 17), .mv (.t 0), none, [], false⟩,
        ⟨(some 18), .mv (.t 1), none, [], false⟩,
        ⟨(some 19), .bin .quo (.t 17) (.t 18), none, [], false⟩,
        ⟨(some 6), .mv (.t 19), none, [], false⟩])
      (.seq (.seq (.reg [
          ⟨(some 20), .mv (.t 0), none, [], false⟩,
          ⟨(some 21), .mv (.t 1), none, [], false⟩,
          ⟨(some 22), .bin .rem (.t 20) (.t 21), none, [], false⟩,
          ⟨(some 23), .bin .neq (.t 22) (.k (.int .i64 0)), none, [], false⟩,
          ⟨(some 24), .mv (.t 23), none, [], false⟩,
          ⟨(some 25), .mv (.t 0), (some (24, true)), [], false⟩,
          ⟨(some 26), .bin .lss (.t 25) (.k (.int .i64 0)), (some (24, true)), [], false⟩,
          ⟨(some 27), .mv (.t 1), (some (24, true)), [], false⟩,
          ⟨(some 28), .bin .lss (.t 27) (.k (.int .i64 0)), (some (24, true)), [], false⟩,
          ⟨(some 29), .eqs true none (.t 26) (.t 28), (some (24, true)), [], false⟩,
          ⟨(some 30), .pick (.t 24) (.t 29) (.k (.bool false)), none, [], false⟩])
        (.cond (.t 30) (.reg [
           ⟨(some 31), .mv (.t 6), none, [], false⟩,
           ⟨(some 32), .bin .sub (.t 31) (.k (.int .i64 1)), none, [], false⟩,
           ⟨(some 6), .mv (.t 32), none, [], false⟩])
         (.skip)))
       (.seq (.reg [
          ⟨(some 33), .mv (.t 6), none, [], false⟩,
          ⟨(some 4), .mv (.t 33), none, [], false⟩,
          ⟨(some 5), .mv (.k (.int .i64 0)), none, [], false⟩])
        (.ret)))))
/-- skyway/plane.Toward -/
def c101 : CF where
  np := 4
  nt := 74
  res := [.cn 2 8, .t 9]
  code := .seq (.reg [
      ⟨(some 4), .box (.t 0), none, [], false⟩,
      ⟨(some 5), .box (.t 1), none, [], false⟩,
      ⟨(some 8), .new [.int .i64 0, .int .i64 0], none, [], false⟩,
      ⟨(some 9), .mv (.k (.int .i64 0)), none, [], false⟩])
    (.seq (.blk 0 (.seq (.reg [
         ⟨(some 15), .mv (.t 3), none, [], false⟩,
         ⟨(some 16), .bin .leq (.t 15) (.k (.int .i64 0)), none, [], false⟩,
         ⟨(some 14), .mv (.t 16), none, [], false⟩])
       (.cond (.t 14) (.seq (.reg [
           ⟨(some 17), .mk [.int .i64 0, .int .i64 0] [], none, [], false⟩,
           ⟨none, .st 2 (.t 8) (.t 17), none, [], false⟩,
           ⟨(some 9), .mv (.k (.int .i64 10)), none, [], false⟩])
         (.ret))
        (.seq (.reg [
           ⟨(some 19), .mv (.t 3), none, [], false⟩,
           ⟨(some 20), .bin .gtr (.t 19) (.k (.int .i64 200000)), none, [], false⟩,
           ⟨(some 21), .mv (.t 20), none, [], false⟩,
           ⟨(some 22), .mv (.t 2), (some (21, false)), [], false⟩,
           ⟨(some 23), .bin .lss (.t 22) (.k (.int .i64 0)), (some (21, false)), [], false⟩,
           ⟨(some 24), .pick (.t 21) (.k (.bool true)) (.t 23), none, [], false⟩,
           ⟨(some 25), .mv (.t 24), none, [], false⟩,
           ⟨(some 26), .mv (.t 2), (some (25, false)), [], false⟩,
           ⟨(some 27), .mv (.t 3), (some (25, false)), [], false⟩,
           ⟨(some 28), .bin .gtr (.t 26) (.t 27), (some (25, false)), [], false⟩,
           ⟨(some 29), .pick (.t 25) (.k (.bool true)) (.t 28), none, [], false⟩,
           ⟨(some 30), .mv (.t 29), none, [], false⟩,
           ⟨(some 31), .ldn 2 (.t 4), (some (30, false)), [], false⟩,
           ⟨(some 32), .call (.k (.fn 53 [])) [(.t 31)], (some (30, false)), [], false⟩,
           ⟨(some 33), .bin .neq (.t 32) (.k (.int .i64 0)), (some (30, false)), [], false⟩,
           ⟨(some 34), .pick (.t 30) (.k (.bool true)) (.t 33), none, [], false⟩,
           ⟨(some 35), .mv (.t 34), none, [], false⟩,
           ⟨(some 36), .ldn 2 (.t 5), (some (35, false)), [], false⟩,
           ⟨(some 37), .call (.k (.fn 53 [])) [(.t 36)], (some (35, false)), [], false⟩,
           ⟨(some 38), .bin .neq (.t 37) (.k (.int .i64 0)), (some (35, false)), [], false⟩,
           ⟨(some 39), .pick (.t 35) (.k (.bool true)) (.t 38), none, [], false⟩,
           ⟨(some 18), .mv (.t 39), none, [], false⟩])
         (.cond (.t 18) (.seq (.reg [
             ⟨(some 40), .mk [.int .i64 0, .int .i64 0] [], none, [], false⟩,
             ⟨none, .st 2 (.t 8) (.t 40), none, [], false⟩,
             ⟨(some 9), .mv (.k (.int .i64 4)), none, [], false⟩])
           (.ret))
          (.skip))))))
     (.seq (.reg [
        ⟨(some 42), .fad 0 (.t 5), none, [], false⟩,
        ⟨(some 43), .ld1 (.t 42), none, [], false⟩,
        ⟨(some 44), .fad 0 (.t 4), none, [], false⟩,
        ⟨(some 45), .ld1 (.t 44), none, [], false⟩,
        ⟨(some 46), .bin .sub (.t 43) (.t 45), none, [], false⟩,
        ⟨(some 47), .mv (.t 2), none, [], false⟩,
        ⟨(some 48), .bin .mul (.t 46) (.t 47), none, [], false⟩,
        ⟨(some 49), .mv (.t 3), none, [], false⟩,
        ⟨(some 50), .call (.k (.fn 121 [])) [(.t 48), (.t 49)], none, [], false⟩,
        ⟨(some 41), .mv (.t 50), none, [], false⟩,
        ⟨(some 51), .ext (.t 41) 0, none, [], false⟩,
        ⟨(some 52), .ext (.t 41) 1, none, [], false⟩,
        ⟨(some 10), .mv (.t 51), none, [], false⟩,
        ⟨(some 11), .mv (.t 52), none, [], false⟩])
      (.seq (.reg [
         ⟨(some 54), .fad 1 (.t 5), none, [], false⟩,
         ⟨(some 55), .ld1 (.t 54), none, [], false⟩,
         ⟨(some 56), .fad 1 (.t 4), none, [], false⟩,
         ⟨(some 57), .ld1 (.t 56), none, [], false⟩,
         ⟨(some 58), .bin .sub (.t 55) (.t 57), none, [], false⟩,
         ⟨(some 59), .mv (.t 2), none, [], false⟩,
         ⟨(some 60), .bin .mul (.t 58) (.t 59), none, [], false⟩,
         ⟨(some 61), .mv (.t 3), none, [], false⟩,
         ⟨(some 62), .call (.k (.fn 121 [])) [(.t 60), (.t 61)], none, [], false⟩,
         ⟨(some 53), .mv (.t 62), none, [], false⟩,
         ⟨(some 63), .ext (.t 53) 0, none, [], false⟩,
         ⟨(some 64), .ext (.t 53) 1, none, [], false⟩,
         ⟨(some 12), .mv (.t 63), none, [], false⟩,
         ⟨(some 13), .mv (.t 64), none, [], false⟩])
       (.seq (.reg [
          ⟨(some 65), .fad 0 (.t 4), none, [], false⟩,
          ⟨(some 66), .ld1 (.t 65), none, [], false⟩,
          ⟨(some 67), .mv (.t 10), none, [], false⟩,
          ⟨(some 68), .bin .add (.t 66) (.t 67), none, [], false⟩,
          ⟨(some 69), .fad 1 (.t 4), none, [], false⟩,
          ⟨(some 70), .ld1 (.t 69), none, [], false⟩,
          ⟨(some 71), .mv (.t 12), none, [], false⟩,
          ⟨(some 72), .bin .add (.t 70) (.t 71), none, [], false⟩,
          ⟨(some 73), .mk [.int .i64 0, .int .i64 0] [(0, 1, (.t 68)), (1, 1, (.t 72))], none, [], false⟩,
          ⟨none, .st 2 (.t 8) (.t 73), none, [], false⟩,
          ⟨(some 9), .mv (.k (.int .i64 0)), none, [], false⟩])
        (.ret)))))
/-- skyway/tube.between -/
def c102 : CF where
  np := 4
  nt := 24
  res := [.t 8]
  code := .seq (.reg [
      ⟨(some 8), .mv (.k (.int .i64 0)), none, [], false⟩])
    (.seq (.reg [
       ⟨(some 12), .mv (.t 1), none, [], false⟩,
       ⟨(some 13), .mv (.t 0), none, [], false⟩,
       ⟨(some 14), .bin .sub (.t 12) (.t 13), none, [], false⟩,
       ⟨(some 15), .mv (.t 2), none, [], false⟩,
       ⟨(some 16), .bin .mul (.t 14) (.t 15), none, [], false⟩,
       ⟨(some 17), .mv (.t 3), none, [], false⟩,
       ⟨(some 18), .call (.k (.fn 121 [])) [(.t 16), (.t 17)], none, [], false⟩,
       ⟨(some 11), .mv (.t 18), none, [], false⟩,
       ⟨(some 19), .ext (.t 11) 0, none, [], false⟩,
       ⟨(some 20), .ext (.t 11) 1, none, [], false⟩,
       ⟨(some 9), .mv (.t 19), none, [], false⟩,
       ⟨(some 10), .mv (.t 20), none, [], false⟩])
     (.seq (.reg [
        ⟨(some 21), .mv (.t 0), none, [], false⟩,
        ⟨(some 22), .mv (.t 9), none, [], false⟩,
        ⟨(some 23), .bin .add (.t 21) (.t 22), none, [], false⟩,
        ⟨(some 8), .mv (.t 23), none, [], false⟩])
      (.ret)))
/-- skyway/num.DivUp -/
def c122 : CF where
  np := 2
  nt := 26
  res := [.t 4, .t 5]
  code := .seq (.reg [
      ⟨(some 4), .mv (.k (.int .i64 0)), none, [], false⟩,
      ⟨(some 5), .mv (.k (.int .i64 0)), none, [], false⟩])
    (.seq (.reg [
       ⟨(some 9), .mv (.t 0), none, [], false⟩,
       ⟨(some 10), .mv (.t 1), none, [], false⟩,
       ⟨(some 11), .call (.k (.fn 121 [])) [(.t 9), (.t 10)], none, [], false⟩,
       ⟨(some 8), .mv (.t 11), none, [], false⟩,
       ⟨(some 12), .ext (.t 8) 0, none, [], false⟩,
       ⟨(some 13), .ext (.t 8) 1, none, [], false⟩,
       ⟨(some 6), .mv (.t 12), none, [], false⟩,
       ⟨(some 7), .mv (.t 13), none, [], false⟩])
     (.seq (.seq (.reg [
         ⟨(some 14), .mv (.t 7), none, [], false⟩,
         ⟨(some 15), .bin .eql (.t 14) (.k (.int .i64 0)), none, [], false⟩,
         ⟨(some 16), .mv (.t 15), none, [], false⟩,
         ⟨(some 17), .mv (.t 0), (some (16, true)), [], false⟩,
         ⟨(some 18), .mv (.t 1), (some (16, true)), [], false⟩,
         ⟨(some 19), .bin .rem (.t 17) (.t 18), (some (16, true)), [], false⟩,
         ⟨(some 20), .bin .neq (.t 19) (.k (.int .i64 0)), (some (16, true)), [], false⟩,
         ⟨(some 21), .pick (.t 16) (.t 20) (.k (.bool false)), none, [], false⟩])
       (.cond (.t 21) (.reg [
          ⟨(some 22), .mv (.t 6), none, [], false⟩,
          ⟨(some 23), .bin .add (.t 22) (.k (.int .i64 1)), none, [], false⟩,
          ⟨(some 6), .mv (.t 23), none, [], false⟩])
        (.skip)))
      (.seq (.reg [
         ⟨(some 24), .mv (.t 6), none, [], false⟩,
         ⟨(some 25), .mv (.t 7), none, [], false⟩,
         ⟨(some 4), .mv (.t 24), none, [], false⟩,
         ⟨(some 5), .mv (.t 25), none, [], false⟩])
       (.ret))))
/-- skyway/tube.above -/
def c103 : CF where
  np := 4
  nt := 24
  res := [.t 8]
  code := .seq (.reg [
      ⟨(some 8), .mv (.k (.int .i64 0)), none, [], false⟩])
    (.seq (.reg [
       ⟨(some 12), .mv (.t 1), none, [], false⟩,
       ⟨(some 13), .mv (.t 0), none, [], false⟩,
       ⟨(some 14), .bin .sub (.t 12) (.t 13), none, [], false⟩,
       ⟨(some 15), .mv (.t 2), none, [], false⟩,
       ⟨(some 16), .bin .mul (.t 14) (.t 15), none, [], false⟩,
       ⟨(some 17), .mv (.t 3), none, [], false⟩,
       ⟨(some 18), .call (.k (.fn 122 [])) [(.t 16), (.t 17)], none, [], false⟩,
       ⟨(some 11), .mv (.t 18), none, [], false⟩,
       ⟨(some 19), .ext (.t 11) 0, none, [], false⟩,
       ⟨(some 20), .ext (.t 11) 1, none, [], false⟩,
       ⟨(some 9), .mv (.t 19), none, [], false⟩,
       ⟨(some 10), .mv (.t 20), none, [], false⟩])
     (.seq (.reg [
        ⟨(some 21), .mv (.t 0), none, [], false⟩,
        ⟨(some 22), .mv (.t 9), none, [], false⟩,
        ⟨(some 23), .bin .add (.t 21) (.t 22), none, [], false⟩,
        ⟨(some 8), .mv (.t 23), none, [], false⟩])
      (.ret)))
/-- skyway/tube.at -/
def c66 : CF where
  np := 2
  nt := 117
  res := [.cn 6 4, .t 5]
  code := .seq (.reg [
      ⟨(some 4), .new [.int .i64 0, .int .i64 0, .int .i64 0, .int .i64 0, .int .i64 0, .int .i64 0], none, [], false⟩,
      ⟨(some 5), .mv (.k (.int .i64 0)), none, [], false⟩])
    (.seq (.seq (.reg [
        ⟨(some 13), .mv (.t 1), none, [], false⟩,
        ⟨(some 14), .mv (.t 0), none, [], false⟩,
        ⟨(some 15), .iad 6 (.t 14) (.k (.int .i64 0)), none, [], false⟩,
        ⟨(some 16), .fad 0 (.t 15), none, [], false⟩,
        ⟨(some 17), .fad 0 (.t 16), none, [], false⟩,
        ⟨(some 18), .ld1 (.t 17), none, [], false⟩,
        ⟨(some 19), .bin .lss (.t 13) (.t 18), none, [], false⟩,
        ⟨(some 20), .mv (.t 19), none, [], false⟩,
        ⟨(some 21), .mv (.t 1), (some (20, false)), [], false⟩,
        ⟨(some 22), .mv (.t 0), (some (20, false)), [], false⟩,
        ⟨(some 23), .mv (.t 0), (some (20, false)), [], false⟩,
        ⟨(some 24), .lenv false (.t 23), (some (20, false)), [], false⟩,
        ⟨(some 25), .bin .sub (.t 24) (.k (.int .i64 1)), (some (20, false)), [], false⟩,
        ⟨(some 26), .iad 6 (.t 22) (.t 25), (some (20, false)), [], false⟩,
        ⟨(some 27), .fad 0 (.t 26), (some (20, false)), [], false⟩,
        ⟨(some 28), .fad 0 (.t 27), (some (20, false)), [], false⟩,
        ⟨(some 29), .ld1 (.t 28), (some (20, false)), [], false⟩,
        ⟨(some 30), .bin .gtr (.t 21) (.t 29), (some (20, false)), [], false⟩,
        ⟨(some 31), .pick (.t 20) (.k (.bool true)) (.t 30), none, [], false⟩])
      (.cond (.t 31) (.seq (.reg [
          ⟨(some 32), .mk [.int .i64 0, .int .i64 0, .int .i64 0, .int .i64 0, .int .i64 0, .int .i64 0] [], none, [], false⟩,
          ⟨none, .st 6 (.t 4) (.t 32), none, [], false⟩,
          ⟨(some 5), .mv (.k (.int .i64 12)), none, [], false⟩])
        (.ret))
       (.skip)))
     (.seq (.reg [
        ⟨(some 6), .mv (.k (.int .i64 0)), none, [], false⟩])
      (.seq (.blk 0 (.loop (.seq (.seq (.reg [
             ⟨(some 33), .mv (.t 6), none, [], false⟩,
             ⟨(some 34), .bin .add (.t 33) (.k (.int .i64 1)), none, [], false⟩,
             ⟨(some 35), .mv (.t 0), none, [], false⟩,
             ⟨(some 36), .lenv false (.t 35), none, [], false⟩,
             ⟨(some 37), .bin .lss (.t 34) (.t 36), none, [], false⟩,
             ⟨(some 38), .mv (.t 37), none, [], false⟩,
             ⟨(some 39), .mv (.t 0), (some (38, true)), [], false⟩,
             ⟨(some 40), .mv (.t 6), (some (38, true)), [], false⟩,
             ⟨(some 41), .bin .add (.t 40) (.k (.int .i64 1)), (some (38, true)), [], false⟩,
             ⟨(some 42), .iad 6 (.t 39) (.t 41), (some (38, true)), [], false⟩,
             ⟨(some 43), .fad 0 (.t 42), (some (38, true)), [], false⟩,
             ⟨(some 44), .fad 0 (.t 43), (some (38, true)), [], false⟩,
             ⟨(some 45), .ld1 (.t 44), (some (38, true)), [], false⟩,
             ⟨(some 46), .mv (.t 1), (some (38, true)), [], false⟩,
             ⟨(some 47), .bin .leq (.t 45) (.t 46), (some (38, true)), [], false⟩,
             ⟨(some 48), .pick (.t 38) (.t 47) (.k (.bool false)), none, [], false⟩])
           (.cond (.t 48) (.skip)
            (.exit 0)))
          (.blk 1 (.reg [
             ⟨(some 49), .mv (.t 6), none, [], false⟩,
             ⟨(some 50), .bin .add (.t 49) (.k (.int .i64 1)), none, [], false⟩,
             ⟨(some 6), .mv (.t 50), none, [], false⟩])))))
       (.seq (.reg [
          ⟨(some 51), .mv (.t 0), none, [], false⟩,
          ⟨(some 52), .mv (.t 6), none, [], false⟩,
          ⟨(some 53), .iad 6 (.t 51) (.t 52), none, [], false⟩,
          ⟨(some 54), .ldn 6 (.t 53), none, [], false⟩,
          ⟨(some 7), .new [.int .i64 0, .int .i64 0, .int .i64 0, .int .i64 0, .int .i64 0, .int .i64 0], none, [], false⟩,
          ⟨none, .st 6 (.t 7) (.t 54), none, [], false⟩])
        (.seq (.seq (.reg [
            ⟨(some 55), .fad 0 (.t 7), none, [], false⟩,
            ⟨(some 56), .fad 0 (.t 55), none, [], false⟩,
            ⟨(some 57), .ld1 (.t 56), none, [], false⟩,
            ⟨(some 58), .mv (.t 1), none, [], false⟩,
            ⟨(some 59), .bin .eql (.t 57) (.t 58), none, [], false⟩])
          (.cond (.t 59) (.seq (.reg [
              ⟨(some 60), .ldn 6 (.t 7), none, [], false⟩,
              ⟨none, .st 6 (.t 4) (.t 60), none, [], false⟩,
              ⟨(some 5), .mv (.k (.int .i64 0)), none, [], false⟩])
            (.ret))
           (.skip)))
         (.seq (.reg [
            ⟨(some 61), .mv (.t 0), none, [], false⟩,
            ⟨(some 62), .mv (.t 6), none, [], false⟩,
            ⟨(some 63), .bin .add (.t 62) (.k (.int .i64 1)), none, [], false⟩,
            ⟨(some 64), .iad 6 (.t 61) (.t 63), none, [], false⟩,
            ⟨(some 65), .ldn 6 (.t 64), none, [], false⟩,
            ⟨(some 8), .new [.int .i64 0, .int .i64 0, .int .i64 0, .int .i64 0, .int .i64 0, .int .i64 0], none, [], false⟩,
            ⟨none, .st 6 (.t 8) (.t 65), none, [], false⟩])
          (.seq (.reg [
             ⟨(some 66), .mv (.t 1), none, [], false⟩,
             ⟨(some 67), .fad 0 (.t 7), none, [], false⟩,
             ⟨(some 68), .fad 0 (.t 67), none, [], false⟩,
             ⟨(some 69), .ld1 (.t 68), none, [], false⟩,
             ⟨(some 70), .bin .sub (.t 66) (.t 69), none, [], false⟩,
             ⟨(some 71), .fad 0 (.t 8), none, [], false⟩,
             ⟨(some 72), .fad 0 (.t 71), none, [], false⟩,
             ⟨(some 73), .ld1 (.t 72), none, [], false⟩,
             ⟨(some 74), .fad 0 (.t 7), none, [], false⟩,
             ⟨(some 75), .fad 0 (.t 74), none, [], false⟩,
             ⟨(some 76), .ld1 (.t 75), none, [], false⟩,
             ⟨(some 77), .bin .sub (.t 73) (.t 76), none, [], false⟩,
             ⟨(some 9), .mv (.t 70), none, [], false⟩,
             ⟨(some 10), .mv (.t 77), none, [], false⟩])
           (.seq (.reg [
              ⟨(some 79), .fad 0 (.t 7), none, [], false⟩,
              ⟨(some 80), .fad 1 (.t 79), none, [], false⟩,
              ⟨(some 81), .ldn 2 (.t 80), none, [], false⟩,
              ⟨(some 82), .fad 0 (.t 8), none, [], false⟩,
              ⟨(some 83), .fad 1 (.t 82), none, [], false⟩,
              ⟨(some 84), .ldn 2 (.t 83), none, [], false⟩,
              ⟨(some 85), .mv (.t 9), none, [], false⟩,
              ⟨(some 86), .mv (.t 10), none, [], false⟩,
              ⟨(some 87), .call (.k (.fn 101 [])) [(.t 81), (.t 84), (.t 85), (.t 86)], none, [], false⟩,
              ⟨(some 78), .mv (.t 87), none, [], false⟩,
              ⟨(some 88), .ext (.t 78) 0, none, [], false⟩,
              ⟨(some 89), .ext (.t 78) 1, none, [], false⟩,
              ⟨(some 11), .new [.int .i64 0, .int .i64 0], none, [], false⟩,
              ⟨none, .st 2 (.t 11) (.t 88), none, [], false⟩,
              ⟨(some 12), .mv (.t 89), none, [], false⟩])
            (.seq (.reg [
               ⟨(some 90), .mv (.t 1), none, [], false⟩,
               ⟨(some 91), .ldn 2 (.t 11), none, [], false⟩,
               ⟨(some 92), .fad 0 (.t 7), none, [], false⟩,
               ⟨(some 93), .fad 3 (.t 92), none, [], false⟩,
               ⟨(some 94), .ld1 (.t 93), none, [], false⟩,
               ⟨(some 95), .fad 0 (.t 8), none, [], false⟩,
               ⟨(some 96), .fad 3 (.t 95), none, [], false⟩,
               ⟨(some 97), .ld1 (.t 96), none, [], false⟩,
               ⟨(some 98), .mv (.t 9), none, [], false⟩,
               ⟨(some 99), .mv (.t 10), none, [], false⟩,
               ⟨(some 102), .fad 4 (.t 7), none, [], false⟩,
               ⟨(some 103), .ld1 (.t 102), none, [], false⟩,
               ⟨(some 104), .fad 4 (.t 8), none, [], false⟩,
               ⟨(some 105), .ld1 (.t 104), none, [], false⟩,
               ⟨(some 106), .mv (.t 9), none, [], false⟩,
               ⟨(some 107), .mv (.t 10), none, [], false⟩,
               ⟨(some 109), .fad 5 (.t 7), none, [], false⟩,
               ⟨(some 110), .ld1 (.t 109), none, [], false⟩,
               ⟨(some 111), .fad 5 (.t 8), none, [], false⟩,
               ⟨(some 112), .ld1 (.t 111), none, [], false⟩,
               ⟨(some 113), .mv (.t 9), none, [], false⟩,
               ⟨(some 114), .mv (.t 10), none, [], false⟩,
               ⟨(some 100), .call (.k (.fn 102 [])) [(.t 94), (.t 97), (.t 98), (.t 99)], none, [], true⟩,
               ⟨(some 101), .mk [.int .i64 0, .int .i64 0, .int .i64 0, .int .i64 0] [(0, 1, (.t 90)), (1, 2, (.t 91)), (3, 1, (.t 100))], none, [], false⟩,
               ⟨(some 108), .call (.k (.fn 103 [])) [(.t 103), (.t 105), (.t 106), (.t 107)], none, [], true⟩,
               ⟨(some 115), .call (.k (.fn 103 [])) [(.t 110), (.t 112), (.t 113), (.t 114)], none, [], true⟩,
               ⟨(some 116), .mk [.int .i64 0, .int .i64 0, .int .i64 0, .int .i64 0, .int .i64 0, .int .i64 0] [(0, 4, (.t 101)), (4, 1, (.t 108)), (5, 1, (.t 115))], none, [], false⟩,
               ⟨none, .st 6 (.t 4) (.t 116), none, [], false⟩,
               ⟨(some 5), .mv (.k (.int .i64 0)), none, [], false⟩])
             (.ret))))))))))
/-- skyway/tube.At -/
def c30 : CF where
  np := 2
  nt := 18
  res := [.cn 6 4, .t 5]
  code := .seq (.reg [
      ⟨(some 4), .new [.int .i64 0, .int .i64 0, .int .i64 0, .int .i64 0, .int .i64 0, .int .i64 0], none, [], false⟩,
      ⟨(some 5), .mv (.k (.int .i64 0)), none, [], false⟩])
    (.seq (.seq (.reg [
        ⟨(some 7), .mv (.t 0), none, [], false⟩,
        ⟨(some 8), .call (.k (.fn 18 [])) [(.t 7)], none, [], false⟩,
        ⟨(some 6), .mv (.t 8), none, [], false⟩])
      (.seq (.reg [
         ⟨(some 9), .mv (.t 6), none, [], false⟩,
         ⟨(some 10), .bin .neq (.t 9) (.k (.int .i64 0)), none, [], false⟩])
       (.cond (.t 10) (.seq (.reg [
           ⟨(some 11), .mk [.int .i64 0, .int .i64 0, .int .i64 0, .int .i64 0, .int .i64 0, .int .i64 0] [], none, [], false⟩,
           ⟨(some 12), .mv (.t 6), none, [], false⟩,
           ⟨none, .st 6 (.t 4) (.t 11), none, [], false⟩,
           ⟨(some 5), .mv (.t 12), none, [], false⟩])
         (.ret))
        (.skip))))
     (.seq (.reg [
        ⟨(some 13), .mv (.t 0), none, [], false⟩,
        ⟨(some 14), .mv (.t 1), none, [], false⟩,
        ⟨(some 15), .call (.k (.fn 66 [])) [(.t 13), (.t 14)], none, [], false⟩,
        ⟨(some 16), .ext (.t 15) 0, none, [], false⟩,
        ⟨(some 17), .ext (.t 15) 1, none, [], false⟩,
        ⟨none, .st 6 (.t 4) (.t 16), none, [], false⟩,
        ⟨(some 5), .mv (.t 17), none, [], false⟩])
      (.ret)))
/-- skyway/pair.square -/
def c64 : CF where
  np := 2
  nt := 28
  res := [.t 4]
  code := .seq (.reg [
      ⟨(some 2), .box (.t 0), none, [], false⟩,
      ⟨(some 3), .box (.t 1), none, [], false⟩,
      ⟨(some 4), .mv (.k (.int .i64 0)), none, [], false⟩])
    (.seq (.reg [
       ⟨(some 5), .fad 0 (.t 2), none, [], false⟩,
       ⟨(some 6), .ld1 (.t 5), none, [], false⟩,
       ⟨(some 7), .fad 0 (.t 3), none, [], false⟩,
       ⟨(some 8), .ld1 (.t 7), none, [], false⟩,
       ⟨(some 9), .bin .sub (.t 6) (.t 8), none, [], false⟩,
       ⟨(some 10), .fad 0 (.t 2), none, [], false⟩,
       ⟨(some 11), .ld1 (.t 10), none, [], false⟩,
       ⟨(some 12), .fad 0 (.t 3), none, [], false⟩,
       ⟨(some 13), .ld1 (.t 12), none, [], false⟩,
       ⟨(some 14), .bin .sub (.t 11) (.t 13), none, [], false⟩,
       ⟨(some 15), .bin .mul (.t 9) (.t 14), none, [], false⟩,
       ⟨(some 16), .fad 1 (.t 2), none, [], false⟩,
       ⟨(some 17), .ld1 (.t 16), none, [], false⟩,
       ⟨(some 18), .fad 1 (.t 3), none, [], false⟩,
       ⟨(some 19), .ld1 (.t 18), none, [], false⟩,
       ⟨(some 20), .bin .sub (.t 17) (.t 19), none, [], false⟩,
       ⟨(some 21), .fad 1 (.t 2), none, [], false⟩,
       ⟨(some 22), .ld1 (.t 21), none, [], false⟩,
       ⟨(some 23), .fad 1 (.t 3), none, [], false⟩,
       ⟨(some 24), .ld1 (.t 23), none, [], false⟩,
       ⟨(some 25), .bin .sub (.t 22) (.t 24), none, [], false⟩,
       ⟨(some 26), .bin .mul (.t 20) (.t 25), none, [], false⟩,
       ⟨(some 27), .bin .add (.t 15) (.t 26), none, [], false⟩,
       ⟨(some 4), .mv (.t 27), none, [], false⟩])
     (.ret))
/-- skyway/pair.Fits -/
def c28 : CF where
  np := 2
  nt := 64
  res := [.t 4, .t 5]
  code := .seq (.reg [
      ⟨(some 2), .box (.t 0), none, [], false⟩,
      ⟨(some 4), .mv (.k (.bool false)), none, [], false⟩,
      ⟨(some 5), .mv (.k (.int .i64 0)), none, [], false⟩])
    (.seq (.seq (.reg [
        ⟨(some 11), .ldn 13 (.t 2), none, [], false⟩,
        ⟨(some 12), .call (.k (.fn 63 [])) [(.t 11)], none, [], false⟩,
        ⟨(some 6), .mv (.t 12), none, [], false⟩])
      (.seq (.reg [
         ⟨(some 13), .mv (.t 6), none, [], false⟩,
         ⟨(some 14), .bin .neq (.t 13) (.k (.int .i64 0)), none, [], false⟩])
       (.cond (.t 14) (.seq (.reg [
           ⟨(some 15), .mv (.t 6), none, [], false⟩,
           ⟨(some 4), .mv (.k (.bool false)), none, [], false⟩,
           ⟨(some 5), .mv (.t 15), none, [], false⟩])
         (.ret))
        (.skip))))
     (.seq (.seq (.reg [
         ⟨(some 16), .mv (.t 1), none, [], false⟩,
         ⟨(some 17), .call (.k (.fn 18 [])) [(.t 16)], none, [], false⟩,
         ⟨(some 7), .mv (.t 17), none, [], false⟩])
       (.seq (.reg [
          ⟨(some 18), .mv (.t 7), none, [], false⟩,
          ⟨(some 19), .bin .neq (.t 18) (.k (.int .i64 0)), none, [], false⟩])
        (.cond (.t 19) (.seq (.reg [
            ⟨(some 20), .mv (.t 7), none, [], false⟩,
            ⟨(some 4), .mv (.k (.bool false)), none, [], false⟩,
            ⟨(some 5), .mv (.t 20), none, [], false⟩])
          (.ret))
         (.skip))))
      (.seq (.reg [
         ⟨(some 22), .mv (.t 1), none, [], false⟩,
         ⟨(some 23), .fad 2 (.t 2), none, [], false⟩,
         ⟨(some 24), .ld1 (.t 23), none, [], false⟩,
         ⟨(some 25), .call (.k (.fn 30 [])) [(.t 22), (.t 24)], none, [], false⟩,
         ⟨(some 21), .mv (.t 25), none, [], false⟩,
         ⟨(some 26), .ext (.t 21) 0, none, [], false⟩,
         ⟨(some 27), .ext (.t 21) 1, none, [], false⟩,
         ⟨(some 8), .new [.int .i64 0, .int .i64 0, .int .i64 0, .int .i64 0, .int .i64 0, .int .i64 0], none, [], false⟩,
         ⟨none, .st 6 (.t 8) (.t 26), none, [], false⟩,
         ⟨(some 9), .mv (.t 27), none, [], false⟩])
       (.seq (.seq (.reg [
           ⟨(some 28), .mv (.t 9), none, [], false⟩,
           ⟨(some 29), .bin .neq (.t 28) (.k (.int .i64 0)), none, [], false⟩])
         (.cond (.t 29) (.seq (.reg [
             ⟨(some 4), .mv (.k (.bool false)), none, [], false⟩,
             ⟨(some 5), .mv (.k (.int .i64 0)), none, [], false⟩])
           (.ret))
          (.skip)))
        (.seq (.reg [
           ⟨(some 30), .fad 4 (.t 8), none, [], false⟩,
           ⟨(some 31), .ld1 (.t 30), none, [], false⟩,
           ⟨(some 32), .fad 9 (.t 2), none, [], false⟩,
           ⟨(some 33), .ld1 (.t 32), none, [], false⟩,
           ⟨(some 34), .bin .add (.t 31) (.t 33), none, [], false⟩,
           ⟨(some 10), .mv (.t 34), none, [], false⟩])
         (.seq (.reg [
            ⟨(some 35), .fad 0 (.t 8), none, [], false⟩,
            ⟨(some 36), .fad 1 (.t 35), none, [], false⟩,
            ⟨(some 37), .ldn 2 (.t 36), none, [], false⟩,
            ⟨(some 38), .fad 3 (.t 2), none, [], false⟩,
            ⟨(some 39), .ldn 2 (.t 38), none, [], false⟩,
            ⟨(some 40), .call (.k (.fn 64 [])) [(.t 37), (.t 39)], none, [], false⟩,
            ⟨(some 41), .mv (.t 10), none, [], false⟩,
            ⟨(some 42), .mv (.t 10), none, [], false⟩,
            ⟨(some 43), .bin .mul (.t 41) (.t 42), none, [], false⟩,
            ⟨(some 44), .bin .leq (.t 40) (.t 43), none, [], false⟩,
            ⟨(some 45), .mv (.t 44), none, [], false⟩,
            ⟨(some 46), .fad 0 (.t 8), (some (45, true)), [], false⟩,
            ⟨(some 47), .fad 3 (.t 46), (some (45, true)), [], false⟩,
            ⟨(some 48), .ld1 (.t 47), (some (45, true)), [], false⟩,
            ⟨(some 49), .fad 7 (.t 2), (some (45, true)), [], false⟩,
            ⟨(some 50), .ld1 (.t 49), (some (45, true)), [], false⟩,
            ⟨(some 51), .bin .sub (.t 48) (.t 50), (some (45, true)), [], false⟩,
            ⟨(some 52), .fad 7 (.t 2), (some (45, true)), [], false⟩,
            ⟨(some 53), .ld1 (.t 52), (some (45, true)), [], false⟩,
            ⟨(some 54), .fad 0 (.t 8), (some (45, true)), [], false⟩,
            ⟨(some 55), .fad 3 (.t 54), (some (45, true)), [], false⟩,
            ⟨(some 56), .ld1 (.t 55), (some (45, true)), [], false⟩,
            ⟨(some 57), .bin .sub (.t 53) (.t 56), (some (45, true)), [], false⟩,
            ⟨(some 58), .mnx true (.t 51) [(.t 57)], (some (45, true)), [], false⟩,
            ⟨(some 59), .fad 5 (.t 8), (some (45, true)), [], false⟩,
            ⟨(some 60), .ld1 (.t 59), (some (45, true)), [], false⟩,
            ⟨(some 61), .bin .add (.t 60) (.k (.int .i64 100)), (some (45, true)), [], false⟩,
            ⟨(some 62), .bin .leq (.t 58) (.t 61), (some (45, true)), [], false⟩,
            ⟨(some 63), .pick (.t 45) (.t 62) (.k (.bool false)), none, [], false⟩,
            ⟨(some 4), .mv (.t 63), none, [], false⟩,
            ⟨(some 5), .mv (.k (.int .i64 0)), none, [], false⟩])
          (.ret)))))))
/-- skyway/pair.Costs -/
def c62 : CF where
  np := 3
  nt := 99
  res := [.t 6, .t 7]
  code := .seq (.reg [
      ⟨(some 6), .mv (.k (.sl true 0 0 0 0 0)), none, [], false⟩,
      ⟨(some 7), .mv (.k (.int .i64 0)), none, [], false⟩])
    (.seq (.seq (.reg [
        ⟨(some 21), .mv (.t 0), none, [], false⟩,
        ⟨(some 22), .lenv false (.t 21), none, [], false⟩,
        ⟨(some 23), .bin .gtr (.t 22) (.k (.int .i64 32)), none, [], false⟩])
      (.cond (.t 23) (.seq (.reg [
          ⟨(some 6), .mv (.k (.sl true 0 0 0 0 0)), none, [], false⟩,
          ⟨(some 7), .mv (.k (.int .i64 2)), none, [], false⟩])
        (.ret))
       (.skip)))
     (.seq (.seq (.reg [
         ⟨(some 24), .mv (.t 1), none, [], false⟩,
         ⟨(some 25), .mv (.t 2), none, [], false⟩,
         ⟨(some 26), .call (.k (.fn 65 [])) [(.t 24), (.t 25)], none, [], false⟩,
         ⟨(some 8), .mv (.t 26), none, [], false⟩])
       (.seq (.reg [
          ⟨(some 27), .mv (.t 8), none, [], false⟩,
          ⟨(some 28), .bin .neq (.t 27) (.k (.int .i64 0)), none, [], false⟩])
        (.cond (.t 28) (.seq (.reg [
            ⟨(some 29), .mv (.t 8), none, [], false⟩,
            ⟨(some 6), .mv (.k (.sl true 0 0 0 0 0)), none, [], false⟩,
            ⟨(some 7), .mv (.t 29), none, [], false⟩])
          (.ret))
         (.skip))))
      (.seq (.reg [
         ⟨(some 9), .mv (.k (.sl true 0 0 0 0 0)), none, [], false⟩])
       (.seq (.seq (.reg [
           ⟨(some 30), .mv (.t 0), none, [], false⟩,
           ⟨(some 31), .lenv false (.t 30), none, [], false⟩,
           ⟨(some 32), .mv (.k (.int .i64 0)), none, [], false⟩])
         (.blk 0 (.loop (.seq (.reg [
              ⟨(some 33), .bin .lss (.t 32) (.t 31), none, [], false⟩])
            (.seq (.cond (.t 33) (.skip)
              (.exit 0))
             (.seq (.blk 1 (.seq (.reg [
                  ⟨(some 34), .iad 13 (.t 30) (.t 32), none, [], false⟩,
                  ⟨(some 35), .ldn 13 (.t 34), none, [], false⟩,
                  ⟨(some 11), .new [.int .i64 0, .int .i64 0, .int .i64 0, .int .i64 0, .int .i64 0, .int .i64 0, .int .i64 0, .int .i64 0, .int .i64 0, .int .i64 0, .int .i64 0, .int .i64 0, .int .i64 0], none, [], false⟩,
                  ⟨none, .st 13 (.t 11) (.t 35), none, [], false⟩])
                (.seq (.seq (.reg [
                    ⟨(some 36), .ldn 13 (.t 11), none, [], false⟩,
                    ⟨(some 37), .call (.k (.fn 63 [])) [(.t 36)], none, [], false⟩,
                    ⟨(some 12), .mv (.t 37), none, [], false⟩])
                  (.seq (.reg [
                     ⟨(some 38), .mv (.t 12), none, [], false⟩,
                     ⟨(some 39), .bin .neq (.t 38) (.k (.int .i64 0)), none, [], false⟩])
                   (.cond (.t 39) (.seq (.reg [
                       ⟨(some 40), .mv (.t 12), none, [], false⟩,
                       ⟨(some 6), .mv (.k (.sl true 0 0 0 0 0)), none, [], false⟩,
                       ⟨(some 7), .mv (.t 40), none, [], false⟩])
                     (.ret))
                    (.skip))))
                 (.seq (.reg [
                    ⟨(some 13), .mv (.k (.sl true 0 0 0 0 0)), none, [], false⟩])
                  (.seq (.seq (.reg [
                      ⟨(some 41), .mv (.t 1), none, [], false⟩,
                      ⟨(some 42), .lenv false (.t 41), none, [], false⟩,
                      ⟨(some 43), .mv (.k (.int .i64 0)), none, [], false⟩])
                    (.blk 2 (.loop (.seq (.reg [
                         ⟨(some 44), .bin .lss (.t 43) (.t 42), none, [], false⟩])
                       (.seq (.cond (.t 44) (.skip)
                         (.exit 2))
                        (.seq (.blk 3 (.seq (.reg [
                             ⟨(some 45), .mv (.t 43), none, [], false⟩,
                             ⟨(some 46), .iad 1 (.t 41) (.t 43), none, [], false⟩,
                             ⟨(some 47), .ld1 (.t 46), none, [], false⟩,
                             ⟨(some 14), .mv (.t 45), none, [], false⟩,
                             ⟨(some 15), .mv (.t 47), none, [], false⟩])
                           (.seq (.reg [
                              ⟨(some 49), .ldn 13 (.t 11), none, [], false⟩,
                              ⟨(some 50), .mv (.t 15), none, [], false⟩,
                              ⟨(some 51), .call (.k (.fn 28 [])) [(.t 49), (.t 50)], none, [], false⟩,
                              ⟨(some 48), .mv (.t 51), none, [], false⟩,
                              ⟨(some 52), .ext (.t 48) 0, none, [], false⟩,
                              ⟨(some 53), .ext (.t 48) 1, none, [], false⟩,
                              ⟨(some 16), .mv (.t 52), none, [], false⟩,
                              ⟨(some 17), .mv (.t 53), none, [], false⟩])
                            (.seq (.reg [
                               ⟨(some 18), .mv (.k (.int .i64 (-1))), none, [], false⟩])
                             (.seq (.seq (.reg [
                                 ⟨(some 54), .mv (.t 16), none, [], false⟩,
                                 ⟨(some 55), .mv (.t 54), none, [], false⟩,
                                 ⟨(some 56), .fad 10 (.t 11), (some (55, true)), [], false⟩,
                                 ⟨(some 57), .ld1 (.t 56), (some (55, true)), [], false⟩,
                                 ⟨(some 58), .bin .lss (.t 57) (.k (.int .i64 0)), (some (55, true)), [], false⟩,
                                 ⟨(some 59), .mv (.t 58), (some (55, true)), [], false⟩,
                                 ⟨(some 60), .fad 10 (.t 11), (some (59, false)), [], false⟩,
                                 ⟨(some 61), .ld1 (.t 60), (some (59, false)), [], false⟩,
                                 ⟨(some 62), .mv (.t 2), (some (59, false)), [], false⟩,
                                 ⟨(some 63), .mv (.t 14), (some (59, false)), [], false⟩,
                                 ⟨(some 64), .iad 1 (.t 62) (.t 63), (some (59, false)), [], false⟩,
                                 ⟨(some 65), .ld1 (.t 64), (some (59, false)), [], false⟩,
                                 ⟨(some 66), .bin .eql (.t 61) (.t 65), (some (59, false)), [], false⟩,
                                 ⟨(some 67), .pick (.t 59) (.k (.bool true)) (.t 66), (some (55, true)), [], false⟩,
                                 ⟨(some 68), .pick (.t 55) (.t 67) (.k (.bool false)), none, [], false⟩])
                               (.cond (.t 68) (.seq (.reg [
                                   ⟨(some 70), .mv (.t 15), none, [], false⟩,
                                   ⟨(some 71), .fad 2 (.t 11), none, [], false⟩,
                                   ⟨(some 72), .ld1 (.t 71), none, [], false⟩,
                                   ⟨(some 73), .call (.k (.fn 30 [])) [(.t 70), (.t 72)], none, [], false⟩,
                                   ⟨(some 69), .mv (.t 73), none, [], false⟩,
                                   ⟨(some 74), .ext (.t 69) 0, none, [], false⟩,
                                   ⟨(some 75), .ext (.t 69) 1, none, [], false⟩,
                                   ⟨(some 19), .new [.int .i64 0, .int .i64 0, .int .i64 0, .int .i64 0, .int .i64 0, .int .i64 0], none, [], false⟩,
                                   ⟨none, .st 6 (.t 19) (.t 74), none, [], false⟩,
                                   ⟨(some 20), .mv (.t 75), none, [], false⟩])
                                 (.seq (.reg [
                                    ⟨(some 76), .fad 0 (.t 19), none, [], false⟩,
                                    ⟨(some 77), .fad 1 (.t 76), none, [], false⟩,
                                    ⟨(some 78), .ldn 2 (.t 77), none, [], false⟩,
                                    ⟨(some 79), .fad 3 (.t 11), none, [], false⟩,
                                    ⟨(some 80), .ldn 2 (.t 79), none, [], false⟩,
                                    ⟨(some 81), .call (.k (.fn 64 [])) [(.t 78), (.t 80)], none, [], false⟩,
                                    ⟨(some 82), .bin .quo (.t 81) (.k (.int .i64 10000)), none, [], false⟩,
                                    ⟨(some 18), .mv (.t 82), none, [], false⟩])
                                  (.seq (.reg [
                                     ⟨(some 83), .fad 10 (.t 11), none, [], false⟩,
                                     ⟨(some 84), .ld1 (.t 83), none, [], false⟩,
                                     ⟨(some 85), .bin .lss (.t 84) (.k (.int .i64 0)), none, [], false⟩])
                                   (.cond (.t 85) (.reg [
                                      ⟨(some 86), .mv (.t 18), none, [], false⟩,
                                      ⟨(some 87), .bin .add (.t 86) (.k (.int .i64 1048576)), none, [], false⟩,
                                      ⟨(some 18), .mv (.t 87), none, [], false⟩])
                                    (.skip)))))
                                (.skip)))
                              (.reg [
                                ⟨(some 88), .mv (.t 13), none, [], false⟩,
                                ⟨(some 89), .mv (.t 18), none, [], false⟩,
                                ⟨(some 90), .mks [.int .i64 0] 1 1 [(0, 1, (.t 89))], none, [], false⟩,
                                ⟨(some 91), .app 1 8 (.t 88) (.t 90), none, [], false⟩,
                                ⟨(some 13), .mv (.t 91), none, [], false⟩]))))))
                         (.reg [
                           ⟨(some 92), .bin .add (.t 43) (.k (.int .i64 1)), none, [], false⟩,
                           ⟨(some 43), .mv (.t 92), none, [], false⟩])))))))
                   (.reg [
                     ⟨(some 93), .mv (.t 9), none, [], false⟩,
                     ⟨(some 94), .mv (.t 13), none, [], false⟩,
                     ⟨(some 95), .mks [.sl true 0 0 0 0 0] 1 1 [(0, 1, (.t 94))], none, [], false⟩,
                     ⟨(some 96), .app 1 24 (.t 93) (.t 95), none, [], false⟩,
                     ⟨(some 9), .mv (.t 96), none, [], false⟩]))))))
              (.reg [
                ⟨(some 97), .bin .add (.t 32) (.k (.int .i64 1)), none, [], false⟩,
                ⟨(some 32), .mv (.t 97), none, [], false⟩])))))))
        (.seq (.reg [
           ⟨(some 98), .mv (.t 9), none, [], false⟩,
           ⟨(some 6), .mv (.t 98), none, [], false⟩,
           ⟨(some 7), .mv (.k (.int .i64 0)), none, [], false⟩])
         (.ret))))))
/-- skyway/assign.Check -/
def c46 : CF where
  np := 2
  nt := 48
  res := [.t 4]
  code := .seq (.reg [
      ⟨(some 4), .mv (.k (.int .i64 0)), none, [], false⟩])
    (.seq (.seq (.reg [
        ⟨(some 9), .mv (.t 0), none, [], false⟩,
        ⟨(some 10), .lenv false (.t 9), none, [], false⟩,
        ⟨(some 11), .bin .gtr (.t 10) (.k (.int .i64 32)), none, [], false⟩])
      (.cond (.t 11) (.seq (.reg [
          ⟨(some 4), .mv (.k (.int .i64 2)), none, [], false⟩])
        (.ret))
       (.skip)))
     (.seq (.seq (.reg [
         ⟨(some 12), .mv (.t 0), none, [], false⟩,
         ⟨(some 13), .lenv false (.t 12), none, [], false⟩,
         ⟨(some 14), .mv (.k (.int .i64 0)), none, [], false⟩])
       (.blk 0 (.loop (.seq (.reg [
            ⟨(some 15), .bin .lss (.t 14) (.t 13), none, [], false⟩])
          (.seq (.cond (.t 15) (.skip)
            (.exit 0))
           (.seq (.blk 1 (.seq (.reg [
                ⟨(some 16), .iad 1 (.t 12) (.t 14), none, [], false⟩,
                ⟨(some 17), .ld1 (.t 16), none, [], false⟩,
                ⟨(some 6), .mv (.t 17), none, [], false⟩])
              (.seq (.seq (.reg [
                  ⟨(some 18), .mv (.t 6), none, [], false⟩,
                  ⟨(some 19), .lenv false (.t 18), none, [], false⟩,
                  ⟨(some 20), .bin .gtr (.t 19) (.k (.int .i64 32)), none, [], false⟩])
                (.cond (.t 20) (.seq (.reg [
                    ⟨(some 4), .mv (.k (.int .i64 2)), none, [], false⟩])
                  (.ret))
                 (.skip)))
               (.seq (.seq (.reg [
                   ⟨(some 21), .mv (.t 6), none, [], false⟩,
                   ⟨(some 22), .lenv false (.t 21), none, [], false⟩,
                   ⟨(some 23), .mv (.t 0), none, [], false⟩,
                   ⟨(some 24), .iad 1 (.t 23) (.k (.int .i64 0)), none, [], false⟩,
                   ⟨(some 25), .ld1 (.t 24), none, [], false⟩,
                   ⟨(some 26), .lenv false (.t 25), none, [], false⟩,
                   ⟨(some 27), .bin .neq (.t 22) (.t 26), none, [], false⟩])
                 (.cond (.t 27) (.seq (.reg [
                     ⟨(some 4), .mv (.k (.int .i64 3)), none, [], false⟩])
                   (.ret))
                  (.skip)))
                (.seq (.reg [
                   ⟨(some 28), .mv (.t 6), none, [], false⟩,
                   ⟨(some 29), .lenv false (.t 28), none, [], false⟩,
                   ⟨(some 30), .mv (.k (.int .i64 0)), none, [], false⟩])
                 (.blk 2 (.loop (.seq (.reg [
                      ⟨(some 31), .bin .lss (.t 30) (.t 29), none, [], false⟩])
                    (.seq (.cond (.t 31) (.skip)
                      (.exit 2))
                     (.seq (.blk 3 (.seq (.reg [
                          ⟨(some 32), .iad 1 (.t 28) (.t 30), none, [], false⟩,
                          ⟨(some 33), .ld1 (.t 32), none, [], false⟩,
                          ⟨(some 8), .mv (.t 33), none, [], false⟩])
                        (.seq (.reg [
                           ⟨(some 34), .mv (.t 8), none, [], false⟩,
                           ⟨(some 35), .bin .lss (.t 34) (.k (.int .i64 (-1))), none, [], false⟩,
                           ⟨(some 36), .mv (.t 35), none, [], false⟩,
                           ⟨(some 37), .mv (.t 8), (some (36, false)), [], false⟩,
                           ⟨(some 38), .bin .gtr (.t 37) (.k (.int .i64 1099511627776)), (some (36, false)), [], false⟩,
                           ⟨(some 39), .pick (.t 36) (.k (.bool true)) (.t 38), none, [], false⟩])
                         (.cond (.t 39) (.seq (.reg [
                             ⟨(some 4), .mv (.k (.int .i64 4)), none, [], false⟩])
                           (.ret))
                          (.skip)))))
                      (.reg [
                        ⟨(some 40), .bin .add (.t 30) (.k (.int .i64 1)), none, [], false⟩,
                        ⟨(some 30), .mv (.t 40), none, [], false⟩])))))))))))
            (.reg [
              ⟨(some 41), .bin .add (.t 14) (.k (.int .i64 1)), none, [], false⟩,
              ⟨(some 14), .mv (.t 41), none, [], false⟩])))))))
      (.seq (.seq (.reg [
          ⟨(some 42), .mv (.t 1), none, [], false⟩,
          ⟨(some 43), .bin .lss (.t 42) (.k (.int .i64 0)), none, [], false⟩,
          ⟨(some 44), .mv (.t 43), none, [], false⟩,
          ⟨(some 45), .mv (.t 1), (some (44, false)), [], false⟩,
          ⟨(some 46), .bin .gtr (.t 45) (.k (.int .i64 1099511627776)), (some (44, false)), [], false⟩,
          ⟨(some 47), .pick (.t 44) (.k (.bool true)) (.t 46), none, [], false⟩])
        (.cond (.t 47) (.seq (.reg [
            ⟨(some 4), .mv (.k (.int .i64 4)), none, [], false⟩])
          (.ret))
         (.skip)))
       (.seq (.reg [
          ⟨(some 4), .mv (.k (.int .i64 0)), none, [], false⟩])
        (.ret)))))
/-- slices.Clone[[]int,int] -/
def c87 : CF where
  np := 1
  nt := 8
  res := [.t 2]
  code := .seq (.reg [
      ⟨(some 2), .mv (.k (.sl true 0 0 0 0 0)), none, [], false⟩])
    (.seq (.seq (.reg [
        ⟨(some 3), .mv (.t 0), none, [], false⟩,
        ⟨(some 4), .eqn false 0 (.t 3), none, [], false⟩])
      (.cond (.t 4) (.seq (.reg [
          ⟨(some 2), .mv (.k (.sl true 0 0 0 0 0)), none, [], false⟩])
        (.ret))
       (.skip)))
     (.seq (.reg [
        ⟨(some 5), .mks [] 1 0 [], none, [], false⟩,
        ⟨(some 6), .mv (.t 0), none, [], false⟩,
        ⟨(some 7), .app 1 8 (.t 5) (.t 6), none, [], false⟩,
        ⟨(some 2), .mv (.t 7), none, [], false⟩])
      (.ret)))
/-- skyway/assign.square -/
def c47 : CF where
  np := 2
  nt := 55
  res := [.t 4]
  code := .seq (.reg [
      ⟨(some 4), .mv (.k (.sl true 0 0 0 0 0)), none, [], false⟩])
    (.seq (.reg [
       ⟨(some 5), .mv (.k (.sl true 0 0 0 0 0)), none, [], false⟩])
     (.seq (.seq (.reg [
         ⟨(some 13), .mv (.t 0), none, [], false⟩,
         ⟨(some 14), .lenv false (.t 13), none, [], false⟩,
         ⟨(some 15), .mv (.k (.int .i64 0)), none, [], false⟩])
       (.blk 0 (.loop (.seq (.reg [
            ⟨(some 16), .bin .lss (.t 15) (.t 14), none, [], false⟩])
          (.seq (.cond (.t 16) (.skip)
            (.exit 0))
           (.seq (.blk 1 (.seq (.reg [
                ⟨(some 17), .mv (.t 15), none, [], false⟩,
                ⟨(some 18), .iad 1 (.t 13) (.t 15), none, [], false⟩,
                ⟨(some 19), .ld1 (.t 18), none, [], false⟩,
                ⟨(some 6), .mv (.t 17), none, [], false⟩,
                ⟨(some 7), .mv (.t 19), none, [], false⟩])
              (.seq (.reg [
                 ⟨(some 20), .mv (.t 7), none, [], false⟩,
                 ⟨(some 21), .call (.k (.fn 87 [])) [(.t 20)], none, [], false⟩,
                 ⟨(some 8), .mv (.t 21), none, [], false⟩])
               (.seq (.seq (.reg [
                   ⟨(some 22), .mv (.t 8), none, [], false⟩,
                   ⟨(some 23), .lenv false (.t 22), none, [], false⟩,
                   ⟨(some 24), .mv (.k (.int .i64 0)), none, [], false⟩])
                 (.blk 2 (.loop (.seq (.reg [
                      ⟨(some 25), .bin .lss (.t 24) (.t 23), none, [], false⟩])
                    (.seq (.cond (.t 25) (.skip)
                      (.exit 2))
                     (.seq (.blk 3 (.seq (.reg [
                          ⟨(some 26), .mv (.t 24), none, [], false⟩,
                          ⟨(some 27), .iad 1 (.t 22) (.t 24), none, [], false⟩,
                          ⟨(some 28), .ld1 (.t 27), none, [], false⟩,
                          ⟨(some 9), .mv (.t 26), none, [], false⟩,
                          ⟨(some 10), .mv (.t 28), none, [], false⟩])
                        (.seq (.reg [
                           ⟨(some 29), .mv (.t 10), none, [], false⟩,
                           ⟨(some 30), .bin .lss (.t 29) (.k (.int .i64 0)), none, [], false⟩])
                         (.cond (.t 30) (.reg [
                            ⟨(some 31), .mv (.t 8), none, [], false⟩,
                            ⟨(some 32), .mv (.t 9), none, [], false⟩,
                            ⟨(some 33), .iad 1 (.t 31) (.t 32), none, [], false⟩,
                            ⟨none, .st 1 (.t 33) (.k (.int .i64 1125899906842624)), none, [], false⟩])
                          (.skip)))))
                      (.reg [
                        ⟨(some 34), .bin .add (.t 24) (.k (.int .i64 1)), none, [], false⟩,
                        ⟨(some 24), .mv (.t 34), none, [], false⟩])))))))
                (.seq (.seq (.reg [
                    ⟨(some 35), .mv (.t 0), none, [], false⟩,
                    ⟨(some 36), .lenv false (.t 35), none, [], false⟩,
                    ⟨(some 37), .mv (.k (.int .i64 0)), none, [], false⟩])
                  (.blk 4 (.loop (.seq (.reg [
                       ⟨(some 38), .bin .lss (.t 37) (.t 36), none, [], false⟩])
                     (.seq (.cond (.t 38) (.skip)
                       (.exit 4))
                      (.seq (.blk 5 (.seq (.reg [
                           ⟨(some 39), .mv (.t 37), none, [], false⟩,
                           ⟨(some 11), .mv (.t 39), none, [], false⟩])
                         (.seq (.reg [
                            ⟨(some 12), .mv (.k (.int .i64 1125899906842624)), none, [], false⟩])
                          (.seq (.seq (.reg [
                              ⟨(some 40), .mv (.t 11), none, [], false⟩,
                              ⟨(some 41), .mv (.t 6), none, [], false⟩,
                              ⟨(some 42), .bin .eql (.t 40) (.t 41), none, [], false⟩])
                            (.cond (.t 42) (.reg [
                               ⟨(some 43), .mv (.t 1), none, [], false⟩,
                               ⟨(some 12), .mv (.t 43), none, [], false⟩])
                             (.skip)))
                           (.reg [
                             ⟨(some 44), .mv (.t 8), none, [], false⟩,
                             ⟨(some 45), .mv (.t 12), none, [], false⟩,
                             ⟨(some 46), .mks [.int .i64 0] 1 1 [(0, 1, (.t 45))], none, [], false⟩,
                             ⟨(some 47), .app 1 8 (.t 44) (.t 46), none, [], false⟩,
                             ⟨(some 8), .mv (.t 47), none, [], false⟩])))))
                       (.reg [
                         ⟨(some 48), .bin .add (.t 37) (.k (.int .i64 1)), none, [], false⟩,
                         ⟨(some 37), .mv (.t 48), none, [], false⟩])))))))
                 (.reg [
                   ⟨(some 49), .mv (.t 5), none, [], false⟩,
                   ⟨(some 50), .mv (.t 8), none, [], false⟩,
                   ⟨(some 51), .mks [.sl true 0 0 0 0 0] 1 1 [(0, 1, (.t 50))], none, [], false⟩,
                   ⟨(some 52), .app 1 24 (.t 49) (.t 51), none, [], false⟩,
                   ⟨(some 5), .mv (.t 52), none, [], false⟩]))))))
            (.reg [
              ⟨(some 53), .bin .add (.t 15) (.k (.int .i64 1)), none, [], false⟩,
              ⟨(some 15), .mv (.t 53), none, [], false⟩])))))))
      (.seq (.reg [
         ⟨(some 54), .mv (.t 5), none, [], false⟩,
         ⟨(some 4), .mv (.t 54), none, [], false⟩])
       (.ret))))
/-- (*skyway/assign.solver).add -/
def c88 : CF where
  np := 2
  nt := 187
  res := []
  code := .seq (.reg [
      ⟨(some 16), .mv (.t 0), none, [], false⟩,
      ⟨(some 17), .nchk (.t 16), none, [], false⟩,
      ⟨(some 18), .fad 2 (.t 17), none, [], false⟩,
      ⟨(some 19), .ld1 (.t 18), none, [], false⟩,
      ⟨(some 20), .lenv false (.t 19), none, [], false⟩,
      ⟨(some 4), .mv (.t 20), none, [], false⟩])
    (.seq (.reg [
       ⟨(some 21), .mv (.t 4), none, [], false⟩,
       ⟨(some 22), .mksl [.int .i64 0] 8 (.t 21) (.t 21), none, [], false⟩,
       ⟨(some 23), .mv (.t 4), none, [], false⟩,
       ⟨(some 24), .mksl [.int .i64 0] 8 (.t 23) (.t 23), none, [], false⟩,
       ⟨(some 25), .mv (.t 4), none, [], false⟩,
       ⟨(some 26), .mksl [.bool false] 1 (.t 25) (.t 25), none, [], false⟩,
       ⟨(some 5), .mv (.t 22), none, [], false⟩,
       ⟨(some 6), .mv (.t 24), none, [], false⟩,
       ⟨(some 7), .mv (.t 26), none, [], false⟩])
     (.seq (.seq (.reg [
         ⟨(some 27), .mv (.t 5), none, [], false⟩,
         ⟨(some 28), .lenv false (.t 27), none, [], false⟩,
         ⟨(some 29), .mv (.k (.int .i64 0)), none, [], false⟩])
       (.blk 0 (.loop (.seq (.reg [
            ⟨(some 30), .bin .lss (.t 29) (.t 28), none, [], false⟩])
          (.seq (.cond (.t 30) (.skip)
            (.exit 0))
           (.seq (.blk 1 (.seq (.reg [
                ⟨(some 31), .mv (.t 29), none, [], false⟩,
                ⟨(some 8), .mv (.t 31), none, [], false⟩])
              (.reg [
                ⟨(some 32), .mv (.t 5), none, [], false⟩,
                ⟨(some 33), .mv (.t 8), none, [], false⟩,
                ⟨(some 34), .iad 1 (.t 32) (.t 33), none, [], false⟩,
                ⟨none, .st 1 (.t 34) (.k (.int .i64 4503599627370496)), none, [], false⟩])))
            (.reg [
              ⟨(some 35), .bin .add (.t 29) (.k (.int .i64 1)), none, [], false⟩,
              ⟨(some 29), .mv (.t 35), none, [], false⟩])))))))
      (.seq (.reg [
         ⟨(some 36), .mv (.t 0), none, [], false⟩,
         ⟨(some 37), .nchk (.t 36), none, [], false⟩,
         ⟨(some 38), .fad 3 (.t 37), none, [], false⟩,
         ⟨(some 39), .ld1 (.t 38), none, [], false⟩,
         ⟨(some 40), .mv (.t 1), none, [], false⟩,
         ⟨(some 41), .iad 1 (.t 39) (.k (.int .i64 0)), none, [], false⟩,
         ⟨none, .st 1 (.t 41) (.t 40), none, [], false⟩])
       (.seq (.reg [
          ⟨(some 9), .mv (.k (.int .i64 0)), none, [], false⟩])
        (.seq (.blk 2 (.loop (.blk 3 (.seq (.reg [
               ⟨(some 42), .mv (.t 7), none, [], false⟩,
               ⟨(some 43), .mv (.t 9), none, [], false⟩,
               ⟨(some 44), .iad 1 (.t 42) (.t 43), none, [], false⟩,
               ⟨none, .st 1 (.t 44) (.k (.bool true)), none, [], false⟩])
             (.seq (.reg [
                ⟨(some 45), .mv (.t 0), none, [], false⟩,
                ⟨(some 46), .nchk (.t 45), none, [], false⟩,
                ⟨(some 47), .fad 3 (.t 46), none, [], false⟩,
                ⟨(some 48), .ld1 (.t 47), none, [], false⟩,
                ⟨(some 49), .mv (.t 9), none, [], false⟩,
                ⟨(some 50), .iad 1 (.t 48) (.t 49), none, [], false⟩,
                ⟨(some 51), .ld1 (.t 50), none, [], false⟩,
                ⟨(some 10), .mv (.t 51), none, [], false⟩,
                ⟨(some 11), .mv (.k (.int .i64 4503599627370496)), none, [], false⟩,
                ⟨(some 12), .mv (.k (.int .i64 0)), none, [], false⟩])
              (.seq (.seq (.reg [
                  ⟨(some 13), .mv (.k (.int .i64 1)), none, [], false⟩])
                (.blk 4 (.loop (.seq (.seq (.reg [
                      ⟨(some 52), .mv (.t 13), none, [], false⟩,
                      ⟨(some 53), .mv (.t 4), none, [], false⟩,
                      ⟨(some 54), .bin .lss (.t 52) (.t 53), none, [], false⟩])
                    (.cond (.t 54) (.skip)
                     (.exit 4)))
                   (.seq (.blk 5 (.seq (.seq (.reg [
                         ⟨(some 57), .mv (.t 7), none, [], false⟩,
                         ⟨(some 58), .mv (.t 13), none, [], false⟩,
                         ⟨(some 59), .iad 1 (.t 57) (.t 58), none, [], false⟩,
                         ⟨(some 60), .ld1 (.t 59), none, [], false⟩])
                       (.cond (.t 60) (.exit 5)
                        (.skip)))
                      (.seq (.seq (.reg [
                          ⟨(some 61), .mv (.t 0), none, [], false⟩,
                          ⟨(some 62), .nchk (.t 61), none, [], false⟩,
                          ⟨(some 63), .fad 0 (.t 62), none, [], false⟩,
                          ⟨(some 64), .ld1 (.t 63), none, [], false⟩,
                          ⟨(some 65), .mv (.t 10), none, [], false⟩,
                          ⟨(some 66), .bin .sub (.t 65) (.k (.int .i64 1)), none, [], false⟩,
                          ⟨(some 67), .iad 1 (.t 64) (.t 66), none, [], false⟩,
                          ⟨(some 68), .ld1 (.t 67), none, [], false⟩,
                          ⟨(some 69), .mv (.t 13), none, [], false⟩,
                          ⟨(some 70), .bin .sub (.t 69) (.k (.int .i64 1)), none, [], false⟩,
                          ⟨(some 71), .iad 1 (.t 68) (.t 70), none, [], false⟩,
                          ⟨(some 72), .ld1 (.t 71), none, [], false⟩,
                          ⟨(some 73), .mv (.t 0), none, [], false⟩,
                          ⟨(some 74), .nchk (.t 73), none, [], false⟩,
                          ⟨(some 75), .fad 1 (.t 74), none, [], false⟩,
                          ⟨(some 76), .ld1 (.t 75), none, [], false⟩,
                          ⟨(some 77), .mv (.t 10), none, [], false⟩,
                          ⟨(some 78), .iad 1 (.t 76) (.t 77), none, [], false⟩,
                          ⟨(some 79), .ld1 (.t 78), none, [], false⟩,
                          ⟨(some 80), .bin .sub (.t 72) (.t 79), none, [], false⟩,
                          ⟨(some 81), .mv (.t 0), none, [], false⟩,
                          ⟨(some 82), .nchk (.t 81), none, [], false⟩,
                          ⟨(some 83), .fad 2 (.t 82), none, [], false⟩,
                          ⟨(some 84), .ld1 (.t 83), none, [], false⟩,
                          ⟨(some 85), .mv (.t 13), none, [], false⟩,
                          ⟨(some 86), .iad 1 (.t 84) (.t 85), none, [], false⟩,
                          ⟨(some 87), .ld1 (.t 86), none, [], false⟩,
                          ⟨(some 88), .bin .sub (.t 80) (.t 87), none, [], false⟩,
                          ⟨(some 14), .mv (.t 88), none, [], false⟩])
                        (.seq (.reg [
                           ⟨(some 89), .mv (.t 14), none, [], false⟩,
                           ⟨(some 90), .mv (.t 5), none, [], false⟩,
                           ⟨(some 91), .mv (.t 13), none, [], false⟩,
                           ⟨(some 92), .iad 1 (.t 90) (.t 91), none, [], false⟩,
                           ⟨(some 93), .ld1 (.t 92), none, [], false⟩,
                           ⟨(some 94), .bin .lss (.t 89) (.t 93), none, [], false⟩])
                         (.cond (.t 94) (.reg [
                            ⟨(some 95), .mv (.t 5), none, [], false⟩,
                            ⟨(some 96), .mv (.t 13), none, [], false⟩,
                            ⟨(some 97), .mv (.t 6), none, [], false⟩,
                            ⟨(some 98), .mv (.t 13), none, [], false⟩,
                            ⟨(some 99), .mv (.t 14), none, [], false⟩,
                            ⟨(some 100), .mv (.t 9), none, [], false⟩,
                            ⟨(some 101), .iad 1 (.t 95) (.t 96), none, [], false⟩,
                            ⟨none, .st 1 (.t 101) (.t 99), none, [], false⟩,
                            ⟨(some 102), .iad 1 (.t 97) (.t 98), none, [], false⟩,
                            ⟨none, .st 1 (.t 102) (.t 100), none, [], false⟩])
                          (.skip))))
                       (.seq (.reg [
                          ⟨(some 103), .mv (.t 5), none, [], false⟩,
                          ⟨(some 104), .mv (.t 13), none, [], false⟩,
                          ⟨(some 105), .iad 1 (.t 103) (.t 104), none, [], false⟩,
                          ⟨(some 106), .ld1 (.t 105), none, [], false⟩,
                          ⟨(some 107), .mv (.t 11), none, [], false⟩,
                          ⟨(some 108), .bin .lss (.t 106) (.t 107), none, [], false⟩])
                        (.cond (.t 108) (.reg [
                           ⟨(some 109), .mv (.t 5), none, [], false⟩,
                           ⟨(some 110), .mv (.t 13), none, [], false⟩,
                           ⟨(some 111), .iad 1 (.t 109) (.t 110), none, [], false⟩,
                           ⟨(some 112), .ld1 (.t 111), none, [], false⟩,
                           ⟨(some 113), .mv (.t 13), none, [], false⟩,
                           ⟨(some 11), .mv (.t 112), none, [], false⟩,
                           ⟨(some 12), .mv (.t 113), none, [], false⟩])
                         (.skip))))))
                    (.reg [
                      ⟨(some 55), .mv (.t 13), none, [], false⟩,
                      ⟨(some 56), .bin .add (.t 55) (.k (.int .i64 1)), none, [], false⟩,
                      ⟨(some 13), .mv (.t 56), none, [], false⟩]))))))
               (.seq (.seq (.reg [
                   ⟨(some 114), .mv (.t 4), none, [], false⟩,
                   ⟨(some 115), .mv (.k (.int .i64 0)), none, [], false⟩])
                 (.blk 6 (.loop (.seq (.reg [
                      ⟨(some 116), .bin .lss (.t 115) (.t 114), none, [], false⟩])
                    (.seq (.cond (.t 116) (.skip)
                      (.exit 6))
                     (.seq (.blk 7 (.seq (.reg [
                          ⟨(some 117), .mv (.t 115), none, [], false⟩,
                          ⟨(some 15), .mv (.t 117), none, [], false⟩])
                        (.seq (.reg [
                           ⟨(some 118), .mv (.t 7), none, [], false⟩,
                           ⟨(some 119), .mv (.t 15), none, [], false⟩,
                           ⟨(some 120), .iad 1 (.t 118) (.t 119), none, [], false⟩,
                           ⟨(some 121), .ld1 (.t 120), none, [], false⟩])
                         (.cond (.t 121) (.seq (.reg [
                             ⟨(some 122), .mv (.t 0), none, [], false⟩,
                             ⟨(some 123), .nchk (.t 122), none, [], false⟩,
                             ⟨(some 124), .fad 1 (.t 123), none, [], false⟩,
                             ⟨(some 125), .ld1 (.t 124), none, [], false⟩,
                             ⟨(some 126), .mv (.t 0), none, [], false⟩,
                             ⟨(some 127), .nchk (.t 126), none, [], false⟩,
                             ⟨(some 128), .fad 3 (.t 127), none, [], false⟩,
                             ⟨(some 129), .ld1 (.t 128), none, [], false⟩,
                             ⟨(some 130), .mv (.t 15), none, [], false⟩,
                             ⟨(some 131), .iad 1 (.t 129) (.t 130), none, [], false⟩,
                             ⟨(some 132), .ld1 (.t 131), none, [], false⟩,
                             ⟨(some 133), .iad 1 (.t 125) (.t 132), none, [], false⟩,
                             ⟨(some 134), .ld1 (.t 133), none, [], false⟩,
                             ⟨(some 135), .mv (.t 11), none, [], false⟩,
                             ⟨(some 136), .bin .add (.t 134) (.t 135), none, [], false⟩,
                             ⟨(some 137), .iad 1 (.t 125) (.t 132), none, [], false⟩,
                             ⟨none, .st 1 (.t 137) (.t 136), none, [], false⟩])
                           (.reg [
                             ⟨(some 138), .mv (.t 0), none, [], false⟩,
                             ⟨(some 139), .nchk (.t 138), none, [], false⟩,
                             ⟨(some 140), .fad 2 (.t 139), none, [], false⟩,
                             ⟨(some 141), .ld1 (.t 140), none, [], false⟩,
                             ⟨(some 142), .mv (.t 15), none, [], false⟩,
                             ⟨(some 143), .iad 1 (.t 141) (.t 142), none, [], false⟩,
                             ⟨(some 144), .ld1 (.t 143), none, [], false⟩,
                             ⟨(some 145), .mv (.t 11), none, [], false⟩,
                             ⟨(some 146), .bin .sub (.t 144) (.t 145), none, [], false⟩,
                             ⟨(some 147), .iad 1 (.t 141) (.t 142), none, [], false⟩,
                             ⟨none, .st 1 (.t 147) (.t 146), none, [], false⟩]))
                          (.reg [
                            ⟨(some 148), .mv (.t 5), none, [], false⟩,
                            ⟨(some 149), .mv (.t 15), none, [], false⟩,
                            ⟨(some 150), .iad 1 (.t 148) (.t 149), none, [], false⟩,
                            ⟨(some 151), .ld1 (.t 150), none, [], false⟩,
                            ⟨(some 152), .mv (.t 11), none, [], false⟩,
                            ⟨(some 153), .bin .sub (.t 151) (.t 152), none, [], false⟩,
                            ⟨(some 154), .iad 1 (.t 148) (.t 149), none, [], false⟩,
                            ⟨none, .st 1 (.t 154) (.t 153), none, [], false⟩])))))
                      (.reg [
                        ⟨(some 155), .bin .add (.t 115) (.k (.int .i64 1)), none, [], false⟩,
                        ⟨(some 115), .mv (.t 155), none, [], false⟩])))))))
                (.seq (.reg [
                   ⟨(some 156), .mv (.t 12), none, [], false⟩,
                   ⟨(some 9), .mv (.t 156), none, [], false⟩])
                 (.seq (.reg [
                    ⟨(some 157), .mv (.t 0), none, [], false⟩,
                    ⟨(some 158), .nchk (.t 157), none, [], false⟩,
                    ⟨(some 159), .fad 3 (.t 158), none, [], false⟩,
                    ⟨(some 160), .ld1 (.t 159), none, [], false⟩,
                    ⟨(some 161), .mv (.t 9), none, [], false⟩,
                    ⟨(some 162), .iad 1 (.t 160) (.t 161), none, [], false⟩,
                    ⟨(some 163), .ld1 (.t 162), none, [], false⟩,
                    ⟨(some 164), .bin .eql (.t 163) (.k (.int .i64 0)), none, [], false⟩])
                  (.cond (.t 164) (.exit 2)
                   (.skip)))))))))))
         (.blk 8 (.loop (.seq (.seq (.reg [
               ⟨(some 165), .mv (.t 9), none, [], false⟩,
               ⟨(some 166), .bin .neq (.t 165) (.k (.int .i64 0)), none, [], false⟩])
             (.cond (.t 166) (.skip)
              (.exit 8)))
            (.blk 9 (.seq (.reg [
                ⟨(some 167), .mv (.t 0), none, [], false⟩,
                ⟨(some 168), .nchk (.t 167), none, [], false⟩,
                ⟨(some 169), .fad 3 (.t 168), none, [], false⟩,
                ⟨(some 170), .ld1 (.t 169), none, [], false⟩,
                ⟨(some 171), .mv (.t 9), none, [], false⟩,
                ⟨(some 172), .mv (.t 0), none, [], false⟩,
                ⟨(some 173), .nchk (.t 172), none, [], false⟩,
                ⟨(some 174), .fad 3 (.t 173), none, [], false⟩,
                ⟨(some 175), .ld1 (.t 174), none, [], false⟩,
                ⟨(some 176), .mv (.t 6), none, [], false⟩,
                ⟨(some 177), .mv (.t 9), none, [], false⟩,
                ⟨(some 178), .iad 1 (.t 176) (.t 177), none, [], false⟩,
                ⟨(some 179), .ld1 (.t 178), none, [], false⟩,
                ⟨(some 180), .iad 1 (.t 175) (.t 179), none, [], false⟩,
                ⟨(some 181), .ld1 (.t 180), none, [], false⟩,
                ⟨(some 182), .iad 1 (.t 170) (.t 171), none, [], false⟩,
                ⟨none, .st 1 (.t 182) (.t 181), none, [], false⟩])
              (.reg [
                ⟨(some 183), .mv (.t 6), none, [], false⟩,
                ⟨(some 184), .mv (.t 9), none, [], false⟩,
                ⟨(some 185), .iad 1 (.t 183) (.t 184), none, [], false⟩,
                ⟨(some 186), .ld1 (.t 185), none, [], false⟩,
                ⟨(some 9), .mv (.t 186), none, [], false⟩])))))))))))
/-- skyway/assign.total -/
def c48 : CF where
  np := 1
  nt := 65
  res := [.t 2]
  code := .seq (.reg [
      ⟨(some 2), .mv (.k (.int .i64 0)), none, [], false⟩])
    (.seq (.seq (.reg [
        ⟨(some 8), .mv (.t 0), none, [], false⟩,
        ⟨(some 9), .lenv false (.t 8), none, [], false⟩,
        ⟨(some 10), .bin .eql (.t 9) (.k (.int .i64 0)), none, [], false⟩])
      (.cond (.t 10) (.seq (.reg [
          ⟨(some 2), .mv (.k (.int .i64 0)), none, [], false⟩])
        (.ret))
       (.skip)))
     (.seq (.reg [
        ⟨(some 11), .mv (.t 0), none, [], false⟩,
        ⟨(some 12), .mv (.t 0), none, [], false⟩,
        ⟨(some 13), .lenv false (.t 12), none, [], false⟩,
        ⟨(some 14), .bin .add (.t 13) (.k (.int .i64 1)), none, [], false⟩,
        ⟨(some 15), .mksl [.int .i64 0] 8 (.t 14) (.t 14), none, [], false⟩,
        ⟨(some 16), .mv (.t 0), none, [], false⟩,
        ⟨(some 17), .iad 1 (.t 16) (.k (.int .i64 0)), none, [], false⟩,
        ⟨(some 18), .ld1 (.t 17), none, [], false⟩,
        ⟨(some 19), .lenv false (.t 18), none, [], false⟩,
        ⟨(some 20), .bin .add (.t 19) (.k (.int .i64 1)), none, [], false⟩,
        ⟨(some 21), .mksl [.int .i64 0] 8 (.t 20) (.t 20), none, [], false⟩,
        ⟨(some 22), .mv (.t 0), none, [], false⟩,
        ⟨(some 23), .iad 1 (.t 22) (.k (.int .i64 0)), none, [], false⟩,
        ⟨(some 24), .ld1 (.t 23), none, [], false⟩,
        ⟨(some 25), .lenv false (.t 24), none, [], false⟩,
        ⟨(some 26), .bin .add (.t 25) (.k (.int .i64 1)), none, [], false⟩,
        ⟨(some 27), .mksl [.int .i64 0] 8 (.t 26) (.t 26), none, [], false⟩,
        ⟨(some 28), .mk [.sl true 0 0 0 0 0, .sl true 0 0 0 0 0, .sl true 0 0 0 0 0, .sl true 0 0 0 0 0] [(0, 1, (.t 11)), (1, 1, (.t 15)), (2, 1, (.t 21)), (3, 1, (.t 27))], none, [], false⟩,
        ⟨(some 29), .box (.t 28), none, [], false⟩,
        ⟨(some 3), .mv (.t 29), none, [], false⟩])
      (.seq (.seq (.reg [
          ⟨(some 30), .mv (.t 0), none, [], false⟩,
          ⟨(some 31), .lenv false (.t 30), none, [], false⟩,
          ⟨(some 32), .mv (.k (.int .i64 0)), none, [], false⟩])
        (.blk 0 (.loop (.seq (.reg [
             ⟨(some 33), .bin .lss (.t 32) (.t 31), none, [], false⟩])
           (.seq (.cond (.t 33) (.skip)
             (.exit 0))
            (.seq (.blk 1 (.seq (.reg [
                 ⟨(some 34), .mv (.t 32), none, [], false⟩,
                 ⟨(some 4), .mv (.t 34), none, [], false⟩])
               (.reg [
                 ⟨(some 35), .mv (.t 3), none, [], false⟩,
                 ⟨(some 36), .mv (.t 4), none, [], false⟩,
                 ⟨(some 37), .bin .add (.t 36) (.k (.int .i64 1)), none, [], false⟩,
                 ⟨(some 38), .call (.k (.fn 88 [])) [(.t 35), (.t 37)], none, [], false⟩])))
             (.reg [
               ⟨(some 39), .bin .add (.t 32) (.k (.int .i64 1)), none, [], false⟩,
               ⟨(some 32), .mv (.t 39), none, [], false⟩])))))))
       (.seq (.reg [
          ⟨(some 5), .mv (.k (.int .i64 0)), none, [], false⟩])
        (.seq (.seq (.reg [
            ⟨(some 40), .mv (.t 3), none, [], false⟩,
            ⟨(some 41), .nchk (.t 40), none, [], false⟩,
            ⟨(some 42), .fad 3 (.t 41), none, [], false⟩,
            ⟨(some 43), .ld1 (.t 42), none, [], false⟩,
            ⟨(some 44), .slc 1 (.t 43) (some (.k (.int .i64 1))) none, none, [], false⟩,
            ⟨(some 45), .lenv false (.t 44), none, [], false⟩,
            ⟨(some 46), .mv (.k (.int .i64 0)), none, [], false⟩])
          (.blk 2 (.loop (.seq (.reg [
               ⟨(some 47), .bin .lss (.t 46) (.t 45), none, [], false⟩])
             (.seq (.cond (.t 47) (.skip)
               (.exit 2))
              (.seq (.blk 3 (.seq (.reg [
                   ⟨(some 48), .mv (.t 46), none, [], false⟩,
                   ⟨(some 49), .iad 1 (.t 44) (.t 46), none, [], false⟩,
                   ⟨(some 50), .ld1 (.t 49), none, [], false⟩,
                   ⟨(some 6), .mv (.t 48), none, [], false⟩,
                   ⟨(some 7), .mv (.t 50), none, [], false⟩])
                 (.seq (.reg [
                    ⟨(some 51), .mv (.t 7), none, [], false⟩,
                    ⟨(some 52), .bin .gtr (.t 51) (.k (.int .i64 0)), none, [], false⟩])
                  (.cond (.t 52) (.reg [
                     ⟨(some 53), .mv (.t 5), none, [], false⟩,
                     ⟨(some 54), .mv (.t 0), none, [], false⟩,
                     ⟨(some 55), .mv (.t 7), none, [], false⟩,
                     ⟨(some 56), .bin .sub (.t 55) (.k (.int .i64 1)), none, [], false⟩,
                     ⟨(some 57), .iad 1 (.t 54) (.t 56), none, [], false⟩,
                     ⟨(some 58), .ld1 (.t 57), none, [], false⟩,
                     ⟨(some 59), .mv (.t 6), none, [], false⟩,
                     ⟨(some 60), .iad 1 (.t 58) (.t 59), none, [], false⟩,
                     ⟨(some 61), .ld1 (.t 60), none, [], false⟩,
                     ⟨(some 62), .bin .add (.t 53) (.t 61), none, [], false⟩,
                     ⟨(some 5), .mv (.t 62), none, [], false⟩])
                   (.skip)))))
               (.reg [
                 ⟨(some 63), .bin .add (.t 46) (.k (.int .i64 1)), none, [], false⟩,
                 ⟨(some 46), .mv (.t 63), none, [], false⟩])))))))
         (.seq (.reg [
            ⟨(some 64), .mv (.t 5), none, [], false⟩,
            ⟨(some 2), .mv (.t 64), none, [], false⟩])
          (.ret)))))))
/-- skyway/assign.count -/
def c89 : CF where
  np := 1
  nt := 15
  res := [.t 2]
  code := .seq (.reg [
      ⟨(some 2), .mv (.k (.sl true 0 0 0 0 0)), none, [], false⟩])
    (.seq (.reg [
       ⟨(some 3), .mv (.k (.sl true 0 0 0 0 0)), none, [], false⟩])
     (.seq (.seq (.reg [
         ⟨(some 5), .mv (.t 0), none, [], false⟩,
         ⟨(some 6), .mv (.k (.int .i64 0)), none, [], false⟩])
       (.blk 0 (.loop (.seq (.reg [
            ⟨(some 7), .bin .lss (.t 6) (.t 5), none, [], false⟩])
          (.seq (.cond (.t 7) (.skip)
            (.exit 0))
           (.seq (.blk 1 (.seq (.reg [
                ⟨(some 8), .mv (.t 6), none, [], false⟩,
                ⟨(some 4), .mv (.t 8), none, [], false⟩])
              (.reg [
                ⟨(some 9), .mv (.t 3), none, [], false⟩,
                ⟨(some 10), .mv (.t 4), none, [], false⟩,
                ⟨(some 11), .mks [.int .i64 0] 1 1 [(0, 1, (.t 10))], none, [], false⟩,
                ⟨(some 12), .app 1 8 (.t 9) (.t 11), none, [], false⟩,
                ⟨(some 3), .mv (.t 12), none, [], false⟩])))
            (.reg [
              ⟨(some 13), .bin .add (.t 6) (.k (.int .i64 1)), none, [], false⟩,
              ⟨(some 6), .mv (.t 13), none, [], false⟩])))))))
      (.seq (.reg [
         ⟨(some 14), .mv (.t 3), none, [], false⟩,
         ⟨(some 2), .mv (.t 14), none, [], false⟩])
       (.ret))))
/-- skyway/assign.choose -/
def c49 : CF where
  np := 4
  nt := 75
  res := [.t 8]
  code := .seq (.reg [
      ⟨(some 8), .mv (.k (.int .i64 0)), none, [], false⟩])
    (.seq (.reg [
       ⟨(some 13), .mv (.t 0), none, [], false⟩,
       ⟨(some 14), .mv (.t 1), none, [], false⟩,
       ⟨(some 15), .iad 1 (.t 13) (.t 14), none, [], false⟩,
       ⟨(some 16), .ld1 (.t 15), none, [], false⟩,
       ⟨(some 9), .mv (.t 16), none, [], false⟩])
     (.seq (.seq (.reg [
         ⟨(some 17), .mv (.t 2), none, [], false⟩,
         ⟨(some 18), .mv (.t 1), none, [], false⟩,
         ⟨(some 19), .bin .add (.t 17) (.t 18), none, [], false⟩,
         ⟨(some 20), .mks [.int .i64 0] 1 1 [(0, 1, (.t 19))], none, [], false⟩,
         ⟨(some 21), .mv (.t 2), none, [], false⟩,
         ⟨(some 22), .call (.k (.fn 89 [])) [(.t 21)], none, [], false⟩,
         ⟨(some 23), .app 1 8 (.t 20) (.t 22), none, [], false⟩,
         ⟨(some 24), .lenv false (.t 23), none, [], false⟩,
         ⟨(some 25), .mv (.k (.int .i64 0)), none, [], false⟩])
       (.blk 0 (.loop (.seq (.reg [
            ⟨(some 26), .bin .lss (.t 25) (.t 24), none, [], false⟩])
          (.seq (.cond (.t 26) (.skip)
            (.exit 0))
           (.seq (.blk 1 (.seq (.reg [
                ⟨(some 27), .iad 1 (.t 23) (.t 25), none, [], false⟩,
                ⟨(some 28), .ld1 (.t 27), none, [], false⟩,
                ⟨(some 11), .mv (.t 28), none, [], false⟩])
              (.seq (.seq (.reg [
                  ⟨(some 29), .mv (.t 9), none, [], false⟩,
                  ⟨(some 30), .mv (.t 11), none, [], false⟩,
                  ⟨(some 31), .iad 1 (.t 29) (.t 30), none, [], false⟩,
                  ⟨(some 32), .ld1 (.t 31), none, [], false⟩,
                  ⟨(some 33), .bin .eql (.t 32) (.k (.int .i64 1125899906842624)), none, [], false⟩])
                (.cond (.t 33) (.exit 1)
                 (.skip)))
               (.seq (.reg [
                  ⟨(some 34), .mv (.t 0), none, [], false⟩,
                  ⟨(some 35), .mv (.t 1), none, [], false⟩,
                  ⟨(some 36), .mv (.t 9), none, [], false⟩,
                  ⟨(some 37), .lenv false (.t 36), none, [], false⟩,
                  ⟨(some 38), .mksl [.int .i64 0] 8 (.t 37) (.t 37), none, [], false⟩,
                  ⟨(some 39), .iad 1 (.t 34) (.t 35), none, [], false⟩,
                  ⟨none, .st 1 (.t 39) (.t 38), none, [], false⟩])
                (.seq (.seq (.reg [
                    ⟨(some 40), .mv (.t 9), none, [], false⟩,
                    ⟨(some 41), .lenv false (.t 40), none, [], false⟩,
                    ⟨(some 42), .mv (.k (.int .i64 0)), none, [], false⟩])
                  (.blk 2 (.loop (.seq (.reg [
                       ⟨(some 43), .bin .lss (.t 42) (.t 41), none, [], false⟩])
                     (.seq (.cond (.t 43) (.skip)
                       (.exit 2))
                      (.seq (.blk 3 (.seq (.reg [
                           ⟨(some 44), .mv (.t 42), none, [], false⟩,
                           ⟨(some 12), .mv (.t 44), none, [], false⟩])
                         (.reg [
                           ⟨(some 45), .mv (.t 0), none, [], false⟩,
                           ⟨(some 46), .mv (.t 1), none, [], false⟩,
                           ⟨(some 47), .iad 1 (.t 45) (.t 46), none, [], false⟩,
                           ⟨(some 48), .ld1 (.t 47), none, [], false⟩,
                           ⟨(some 49), .mv (.t 12), none, [], false⟩,
                           ⟨(some 50), .iad 1 (.t 48) (.t 49), none, [], false⟩,
                           ⟨none, .st 1 (.t 50) (.k (.int .i64 1125899906842624)), none, [], false⟩])))
                       (.reg [
                         ⟨(some 51), .bin .add (.t 42) (.k (.int .i64 1)), none, [], false⟩,
                         ⟨(some 42), .mv (.t 51), none, [], false⟩])))))))
                 (.seq (.reg [
                    ⟨(some 52), .mv (.t 0), none, [], false⟩,
                    ⟨(some 53), .mv (.t 1), none, [], false⟩,
                    ⟨(some 54), .iad 1 (.t 52) (.t 53), none, [], false⟩,
                    ⟨(some 55), .ld1 (.t 54), none, [], false⟩,
                    ⟨(some 56), .mv (.t 11), none, [], false⟩,
                    ⟨(some 57), .mv (.t 9), none, [], false⟩,
                    ⟨(some 58), .mv (.t 11), none, [], false⟩,
                    ⟨(some 59), .iad 1 (.t 57) (.t 58), none, [], false⟩,
                    ⟨(some 60), .ld1 (.t 59), none, [], false⟩,
                    ⟨(some 61), .iad 1 (.t 55) (.t 56), none, [], false⟩,
                    ⟨none, .st 1 (.t 61) (.t 60), none, [], false⟩])
                  (.seq (.reg [
                     ⟨(some 62), .mv (.t 0), none, [], false⟩,
                     ⟨(some 63), .call (.k (.fn 48 [])) [(.t 62)], none, [], false⟩,
                     ⟨(some 64), .mv (.t 3), none, [], false⟩,
                     ⟨(some 65), .bin .eql (.t 63) (.t 64), none, [], false⟩])
                   (.cond (.t 65) (.seq (.seq (.reg [
                        ⟨(some 66), .mv (.t 11), none, [], false⟩,
                        ⟨(some 67), .mv (.t 2), none, [], false⟩,
                        ⟨(some 68), .bin .lss (.t 66) (.t 67), none, [], false⟩])
                      (.cond (.t 68) (.seq (.reg [
                          ⟨(some 69), .mv (.t 11), none, [], false⟩,
                          ⟨(some 8), .mv (.t 69), none, [], false⟩])
                        (.ret))
                       (.skip)))
                     (.seq (.reg [
                        ⟨(some 8), .mv (.k (.int .i64 (-1))), none, [], false⟩])
                      (.ret)))
                    (.skip)))))))))
            (.reg [
              ⟨(some 70), .bin .add (.t 25) (.k (.int .i64 1)), none, [], false⟩,
              ⟨(some 25), .mv (.t 70), none, [], false⟩])))))))
      (.seq (.reg [
         ⟨(some 71), .mv (.t 0), none, [], false⟩,
         ⟨(some 72), .mv (.t 1), none, [], false⟩,
         ⟨(some 73), .mv (.t 9), none, [], false⟩,
         ⟨(some 74), .iad 1 (.t 71) (.t 72), none, [], false⟩,
         ⟨none, .st 1 (.t 74) (.t 73), none, [], false⟩])
       (.seq (.reg [
          ⟨(some 8), .mv (.k (.int .i64 (-1))), none, [], false⟩])
        (.ret)))))
/-- skyway/assign.Best -/
def c13 : CF where
  np := 2
  nt := 43
  res := [.t 4, .t 5, .t 6]
  code := .seq (.reg [
      ⟨(some 4), .mv (.k (.sl true 0 0 0 0 0)), none, [], false⟩,
      ⟨(some 5), .mv (.k (.int .i64 0)), none, [], false⟩,
      ⟨(some 6), .mv (.k (.int .i64 0)), none, [], false⟩])
    (.seq (.seq (.reg [
        ⟨(some 12), .mv (.t 0), none, [], false⟩,
        ⟨(some 13), .mv (.t 1), none, [], false⟩,
        ⟨(some 14), .call (.k (.fn 46 [])) [(.t 12), (.t 13)], none, [], false⟩,
        ⟨(some 7), .mv (.t 14), none, [], false⟩])
      (.seq (.reg [
         ⟨(some 15), .mv (.t 7), none, [], false⟩,
         ⟨(some 16), .bin .neq (.t 15) (.k (.int .i64 0)), none, [], false⟩])
       (.cond (.t 16) (.seq (.reg [
           ⟨(some 17), .mv (.t 7), none, [], false⟩,
           ⟨(some 4), .mv (.k (.sl true 0 0 0 0 0)), none, [], false⟩,
           ⟨(some 5), .mv (.k (.int .i64 0)), none, [], false⟩,
           ⟨(some 6), .mv (.t 17), none, [], false⟩])
         (.ret))
        (.skip))))
     (.seq (.reg [
        ⟨(some 18), .mv (.t 0), none, [], false⟩,
        ⟨(some 19), .mv (.t 1), none, [], false⟩,
        ⟨(some 20), .call (.k (.fn 47 [])) [(.t 18), (.t 19)], none, [], false⟩,
        ⟨(some 8), .mv (.t 20), none, [], false⟩])
      (.seq (.reg [
         ⟨(some 21), .mv (.t 8), none, [], false⟩,
         ⟨(some 22), .call (.k (.fn 48 [])) [(.t 21)], none, [], false⟩,
         ⟨(some 9), .mv (.t 22), none, [], false⟩])
       (.seq (.reg [
          ⟨(some 10), .mv (.k (.sl true 0 0 0 0 0)), none, [], false⟩])
        (.seq (.seq (.reg [
            ⟨(some 23), .mv (.t 0), none, [], false⟩,
            ⟨(some 24), .lenv false (.t 23), none, [], false⟩,
            ⟨(some 25), .mv (.k (.int .i64 0)), none, [], false⟩])
          (.blk 0 (.loop (.seq (.reg [
               ⟨(some 26), .bin .lss (.t 25) (.t 24), none, [], false⟩])
             (.seq (.cond (.t 26) (.skip)
               (.exit 0))
              (.seq (.blk 1 (.seq (.reg [
                   ⟨(some 27), .mv (.t 25), none, [], false⟩,
                   ⟨(some 11), .mv (.t 27), none, [], false⟩])
                 (.reg [
                   ⟨(some 28), .mv (.t 10), none, [], false⟩,
                   ⟨(some 29), .mv (.t 8), none, [], false⟩,
                   ⟨(some 30), .mv (.t 11), none, [], false⟩,
                   ⟨(some 31), .mv (.t 0), none, [], false⟩,
                   ⟨(some 32), .mv (.t 11), none, [], false⟩,
                   ⟨(some 33), .iad 1 (.t 31) (.t 32), none, [], false⟩,
                   ⟨(some 34), .ld1 (.t 33), none, [], false⟩,
                   ⟨(some 35), .lenv false (.t 34), none, [], false⟩,
                   ⟨(some 36), .mv (.t 9), none, [], false⟩,
                   ⟨(some 37), .call (.k (.fn 49 [])) [(.t 29), (.t 30), (.t 35), (.t 36)], none, [], false⟩,
                   ⟨(some 38), .mks [.int .i64 0] 1 1 [(0, 1, (.t 37))], none, [], false⟩,
                   ⟨(some 39), .app 1 8 (.t 28) (.t 38), none, [], false⟩,
                   ⟨(some 10), .mv (.t 39), none, [], false⟩])))
               (.reg [
                 ⟨(some 40), .bin .add (.t 25) (.k (.int .i64 1)), none, [], false⟩,
                 ⟨(some 25), .mv (.t 40), none, [], false⟩])))))))
         (.seq (.reg [
            ⟨(some 41), .mv (.t 10), none, [], false⟩,
            ⟨(some 42), .mv (.t 9), none, [], false⟩,
            ⟨(some 4), .mv (.t 41), none, [], false⟩,
            ⟨(some 5), .mv (.t 42), none, [], false⟩,
            ⟨(some 6), .mv (.k (.int .i64 0)), none, [], false⟩])
          (.ret)))))))
/-- skyway/pair.Best -/
def c25 : CF where
  np := 3
  nt := 30
  res := [.t 6, .t 7]
  code := .seq (.reg [
      ⟨(some 6), .mv (.k (.sl true 0 0 0 0 0)), none, [], false⟩,
      ⟨(some 7), .mv (.k (.int .i64 0)), none, [], false⟩])
    (.seq (.reg [
       ⟨(some 13), .mv (.t 0), none, [], false⟩,
       ⟨(some 14), .mv (.t 1), none, [], false⟩,
       ⟨(some 15), .mv (.t 2), none, [], false⟩,
       ⟨(some 16), .call (.k (.fn 62 [])) [(.t 13), (.t 14), (.t 15)], none, [], false⟩,
       ⟨(some 12), .mv (.t 16), none, [], false⟩,
       ⟨(some 17), .ext (.t 12) 0, none, [], false⟩,
       ⟨(some 18), .ext (.t 12) 1, none, [], false⟩,
       ⟨(some 8), .mv (.t 17), none, [], false⟩,
       ⟨(some 9), .mv (.t 18), none, [], false⟩])
     (.seq (.seq (.reg [
         ⟨(some 19), .mv (.t 9), none, [], false⟩,
         ⟨(some 20), .bin .neq (.t 19) (.k (.int .i64 0)), none, [], false⟩])
       (.cond (.t 20) (.seq (.reg [
           ⟨(some 21), .mv (.t 9), none, [], false⟩,
           ⟨(some 6), .mv (.k (.sl true 0 0 0 0 0)), none, [], false⟩,
           ⟨(some 7), .mv (.t 21), none, [], false⟩])
         (.ret))
        (.skip)))
      (.seq (.reg [
         ⟨(some 23), .mv (.t 8), none, [], false⟩,
         ⟨(some 24), .call (.k (.fn 13 [])) [(.t 23), (.k (.int .i64 2147483648))], none, [], false⟩,
         ⟨(some 22), .mv (.t 24), none, [], false⟩,
         ⟨(some 25), .ext (.t 22) 0, none, [], false⟩,
         ⟨(some 26), .ext (.t 22) 1, none, [], false⟩,
         ⟨(some 27), .ext (.t 22) 2, none, [], false⟩,
         ⟨(some 10), .mv (.t 25), none, [], false⟩,
         ⟨(some 11), .mv (.t 26), none, [], false⟩,
         ⟨(some 9), .mv (.t 27), none, [], false⟩])
       (.seq (.reg [
          ⟨(some 28), .mv (.t 10), none, [], false⟩,
          ⟨(some 29), .mv (.t 9), none, [], false⟩,
          ⟨(some 6), .mv (.t 28), none, [], false⟩,
          ⟨(some 7), .mv (.t 29), none, [], false⟩])
        (.ret)))))
/-- slices.Equal[[]int,int] -/
def c27 : CF where
  np := 2
  nt := 26
  res := [.t 4]
  code := .seq (.reg [
      ⟨(some 4), .mv (.k (.bool false)), none, [], false⟩])
    (.seq (.seq (.reg [
        ⟨(some 6), .mv (.t 0), none, [], false⟩,
        ⟨(some 7), .lenv false (.t 6), none, [], false⟩,
        ⟨(some 8), .mv (.t 1), none, [], false⟩,
        ⟨(some 9), .lenv false (.t 8), none, [], false⟩,
        ⟨(some 10), .bin .neq (.t 7) (.t 9), none, [], false⟩])
      (.cond (.t 10) (.seq (.reg [
          ⟨(some 4), .mv (.k (.bool false)), none, [], false⟩])
        (.ret))
       (.skip)))
     (.seq (.seq (.reg [
         ⟨(some 11), .mv (.t 0), none, [], false⟩,
         ⟨(some 12), .lenv false (.t 11), none, [], false⟩,
         ⟨(some 13), .mv (.k (.int .i64 0)), none, [], false⟩])
       (.blk 0 (.loop (.seq (.reg [
            ⟨(some 14), .bin .lss (.t 13) (.t 12), none, [], false⟩])
          (.seq (.cond (.t 14) (.skip)
            (.exit 0))
           (.seq (.blk 1 (.seq (.reg [
                ⟨(some 15), .mv (.t 13), none, [], false⟩,
                ⟨(some 5), .mv (.t 15), none, [], false⟩])
              (.seq (.reg [
                 ⟨(some 16), .mv (.t 0), none, [], false⟩,
                 ⟨(some 17), .mv (.t 5), none, [], false⟩,
                 ⟨(some 18), .iad 1 (.t 16) (.t 17), none, [], false⟩,
                 ⟨(some 19), .ld1 (.t 18), none, [], false⟩,
                 ⟨(some 20), .mv (.t 1), none, [], false⟩,
                 ⟨(some 21), .mv (.t 5), none, [], false⟩,
                 ⟨(some 22), .iad 1 (.t 20) (.t 21), none, [], false⟩,
                 ⟨(some 23), .ld1 (.t 22), none, [], false⟩,
                 ⟨(some 24), .bin .neq (.t 19) (.t 23), none, [], false⟩])
               (.cond (.t 24) (.seq (.reg [
                   ⟨(some 4), .mv (.k (.bool false)), none, [], false⟩])
                 (.ret))
                (.skip)))))
            (.reg [
              ⟨(some 25), .bin .add (.t 13) (.k (.int .i64 1)), none, [], false⟩,
              ⟨(some 13), .mv (.t 25), none, [], false⟩])))))))
      (.seq (.reg [
         ⟨(some 4), .mv (.k (.bool true)), none, [], false⟩])
       (.ret))))
/-- skyway/pair.Missing -/
def c29 : CF where
  np := 4
  nt := 90
  res := [.t 8, .t 9]
  code := .seq (.reg [
      ⟨(some 8), .mv (.k (.sl true 0 0 0 0 0)), none, [], false⟩,
      ⟨(some 9), .mv (.k (.int .i64 0)), none, [], false⟩])
    (.seq (.seq (.reg [
        ⟨(some 19), .mv (.t 0), none, [], false⟩,
        ⟨(some 20), .lenv false (.t 19), none, [], false⟩,
        ⟨(some 21), .bin .gtr (.t 20) (.k (.int .i64 32)), none, [], false⟩])
      (.cond (.t 21) (.seq (.reg [
          ⟨(some 8), .mv (.k (.sl true 0 0 0 0 0)), none, [], false⟩,
          ⟨(some 9), .mv (.k (.int .i64 2)), none, [], false⟩])
        (.ret))
       (.skip)))
     (.seq (.seq (.reg [
         ⟨(some 22), .mv (.t 1), none, [], false⟩,
         ⟨(some 23), .mv (.t 2), none, [], false⟩,
         ⟨(some 24), .call (.k (.fn 65 [])) [(.t 22), (.t 23)], none, [], false⟩,
         ⟨(some 10), .mv (.t 24), none, [], false⟩])
       (.seq (.reg [
          ⟨(some 25), .mv (.t 10), none, [], false⟩,
          ⟨(some 26), .bin .neq (.t 25) (.k (.int .i64 0)), none, [], false⟩])
        (.cond (.t 26) (.seq (.reg [
            ⟨(some 27), .mv (.t 10), none, [], false⟩,
            ⟨(some 8), .mv (.k (.sl true 0 0 0 0 0)), none, [], false⟩,
            ⟨(some 9), .mv (.t 27), none, [], false⟩])
          (.ret))
         (.skip))))
      (.seq (.reg [
         ⟨(some 28), .mv (.t 1), none, [], false⟩,
         ⟨(some 29), .lenv false (.t 28), none, [], false⟩,
         ⟨(some 30), .mksl [.bool false] 1 (.t 29) (.t 29), none, [], false⟩,
         ⟨(some 11), .mv (.t 30), none, [], false⟩])
       (.seq (.seq (.reg [
           ⟨(some 31), .mv (.t 0), none, [], false⟩,
           ⟨(some 32), .lenv false (.t 31), none, [], false⟩,
           ⟨(some 33), .mv (.k (.int .i64 0)), none, [], false⟩])
         (.blk 0 (.loop (.seq (.reg [
              ⟨(some 34), .bin .lss (.t 33) (.t 32), none, [], false⟩])
            (.seq (.cond (.t 34) (.skip)
              (.exit 0))
             (.seq (.blk 1 (.seq (.reg [
                  ⟨(some 35), .iad 1 (.t 31) (.t 33), none, [], false⟩,
                  ⟨(some 36), .ld1 (.t 35), none, [], false⟩,
                  ⟨(some 13), .mv (.t 36), none, [], false⟩])
                (.blk 2 (.seq (.reg [
                    ⟨(some 38), .mv (.t 13), none, [], false⟩,
                    ⟨(some 39), .bin .lss (.t 38) (.k (.int .i64 (-1))), none, [], false⟩,
                    ⟨(some 40), .mv (.t 39), none, [], false⟩,
                    ⟨(some 41), .mv (.t 13), (some (40, false)), [], false⟩,
                    ⟨(some 42), .mv (.t 1), (some (40, false)), [], false⟩,
                    ⟨(some 43), .lenv false (.t 42), (some (40, false)), [], false⟩,
                    ⟨(some 44), .bin .geq (.t 41) (.t 43), (some (40, false)), [], false⟩,
                    ⟨(some 45), .pick (.t 40) (.k (.bool true)) (.t 44), none, [], false⟩,
                    ⟨(some 37), .mv (.t 45), none, [], false⟩])
                  (.cond (.t 37) (.seq (.reg [
                      ⟨(some 8), .mv (.k (.sl true 0 0 0 0 0)), none, [], false⟩,
                      ⟨(some 9), .mv (.k (.int .i64 4)), none, [], false⟩])
                    (.ret))
                   (.seq (.reg [
                      ⟨(some 47), .mv (.t 13), none, [], false⟩,
                      ⟨(some 48), .bin .geq (.t 47) (.k (.int .i64 0)), none, [], false⟩,
                      ⟨(some 49), .mv (.t 48), none, [], false⟩,
                      ⟨(some 50), .mv (.t 11), (some (49, true)), [], false⟩,
                      ⟨(some 51), .mv (.t 13), (some (49, true)), [], false⟩,
                      ⟨(some 52), .iad 1 (.t 50) (.t 51), (some (49, true)), [], false⟩,
                      ⟨(some 53), .ld1 (.t 52), (some (49, true)), [], false⟩,
                      ⟨(some 54), .pick (.t 49) (.t 53) (.k (.bool false)), none, [], false⟩,
                      ⟨(some 46), .mv (.t 54), none, [], false⟩])
                    (.cond (.t 46) (.seq (.reg [
                        ⟨(some 8), .mv (.k (.sl true 0 0 0 0 0)), none, [], false⟩,
                        ⟨(some 9), .mv (.k (.int .i64 7)), none, [], false⟩])
                      (.ret))
                     (.seq (.reg [
                        ⟨(some 56), .mv (.t 13), none, [], false⟩,
                        ⟨(some 57), .bin .geq (.t 56) (.k (.int .i64 0)), none, [], false⟩,
                        ⟨(some 55), .mv (.t 57), none, [], false⟩])
                      (.cond (.t 55) (.reg [
                         ⟨(some 58), .mv (.t 11), none, [], false⟩,
                         ⟨(some 59), .mv (.t 13), none, [], false⟩,
                         ⟨(some 60), .iad 1 (.t 58) (.t 59), none, [], false⟩,
                         ⟨none, .st 1 (.t 60) (.k (.bool true)), none, [], false⟩])
                       (.skip))))))))))
              (.reg [
                ⟨(some 61), .bin .add (.t 33) (.k (.int .i64 1)), none, [], false⟩,
                ⟨(some 33), .mv (.t 61), none, [], false⟩])))))))
        (.seq (.reg [
           ⟨(some 14), .mv (.k (.sl true 0 0 0 0 0)), none, [], false⟩])
         (.seq (.seq (.reg [
             ⟨(some 62), .mv (.t 1), none, [], false⟩,
             ⟨(some 63), .lenv false (.t 62), none, [], false⟩,
             ⟨(some 64), .mv (.k (.int .i64 0)), none, [], false⟩])
           (.blk 3 (.loop (.seq (.reg [
                ⟨(some 65), .bin .lss (.t 64) (.t 63), none, [], false⟩])
              (.seq (.cond (.t 65) (.skip)
                (.exit 3))
               (.seq (.blk 4 (.seq (.reg [
                    ⟨(some 66), .mv (.t 64), none, [], false⟩,
                    ⟨(some 67), .iad 1 (.t 62) (.t 64), none, [], false⟩,
                    ⟨(some 68), .ld1 (.t 67), none, [], false⟩,
                    ⟨(some 15), .mv (.t 66), none, [], false⟩,
                    ⟨(some 16), .mv (.t 68), none, [], false⟩])
                  (.seq (.reg [
                     ⟨(some 70), .mv (.t 16), none, [], false⟩,
                     ⟨(some 71), .mv (.t 3), none, [], false⟩,
                     ⟨(some 72), .call (.k (.fn 30 [])) [(.t 70), (.t 71)], none, [], false⟩,
                     ⟨(some 69), .mv (.t 72), none, [], false⟩,
                     ⟨(some 73), .ext (.t 69) 0, none, [], false⟩,
                     ⟨(some 74), .ext (.t 69) 1, none, [], false⟩,
                     ⟨(some 17), .new [.int .i64 0, .int .i64 0, .int .i64 0, .int .i64 0, .int .i64 0, .int .i64 0], none, [], false⟩,
                     ⟨none, .st 6 (.t 17) (.t 73), none, [], false⟩,
                     ⟨(some 18), .mv (.t 74), none, [], false⟩])
                   (.seq (.reg [
                      ⟨(some 75), .mv (.t 18), none, [], false⟩,
                      ⟨(some 76), .bin .eql (.t 75) (.k (.int .i64 0)), none, [], false⟩,
                      ⟨(some 77), .mv (.t 76), none, [], false⟩,
                      ⟨(some 78), .mv (.t 11), (some (77, true)), [], false⟩,
                      ⟨(some 79), .mv (.t 15), (some (77, true)), [], false⟩,
                      ⟨(some 80), .iad 1 (.t 78) (.t 79), (some (77, true)), [], false⟩,
                      ⟨(some 81), .ld1 (.t 80), (some (77, true)), [], false⟩,
                      ⟨(some 82), .un .not (.t 81), (some (77, true)), [], false⟩,
                      ⟨(some 83), .pick (.t 77) (.t 82) (.k (.bool false)), none, [], false⟩])
                    (.cond (.t 83) (.reg [
                       ⟨(some 84), .mv (.t 14), none, [], false⟩,
                       ⟨(some 85), .mv (.t 15), none, [], false⟩,
                       ⟨(some 86), .mks [.int .i64 0] 1 1 [(0, 1, (.t 85))], none, [], false⟩,
                       ⟨(some 87), .app 1 8 (.t 84) (.t 86), none, [], false⟩,
                       ⟨(some 14), .mv (.t 87), none, [], false⟩])
                     (.skip))))))
                (.reg [
                  ⟨(some 88), .bin .add (.t 64) (.k (.int .i64 1)), none, [], false⟩,
                  ⟨(some 64), .mv (.t 88), none, [], false⟩])))))))
          (.seq (.reg [
             ⟨(some 89), .mv (.t 14), none, [], false⟩,
             ⟨(some 8), .mv (.t 89), none, [], false⟩,
             ⟨(some 9), .mv (.k (.int .i64 0)), none, [], false⟩])
           (.ret))))))))
/-- slices.Index[[]int,int] -/
def c67 : CF where
  np := 2
  nt := 19
  res := [.t 4]
  code := .seq (.reg [
      ⟨(some 4), .mv (.k (.int .i64 0)), none, [], false⟩])
    (.seq (.seq (.reg [
        ⟨(some 6), .mv (.t 0), none, [], false⟩,
        ⟨(some 7), .lenv false (.t 6), none, [], false⟩,
        ⟨(some 8), .mv (.k (.int .i64 0)), none, [], false⟩])
      (.blk 0 (.loop (.seq (.reg [
           ⟨(some 9), .bin .lss (.t 8) (.t 7), none, [], false⟩])
         (.seq (.cond (.t 9) (.skip)
           (.exit 0))
          (.seq (.blk 1 (.seq (.reg [
               ⟨(some 10), .mv (.t 8), none, [], false⟩,
               ⟨(some 5), .mv (.t 10), none, [], false⟩])
             (.seq (.reg [
                ⟨(some 11), .mv (.t 1), none, [], false⟩,
                ⟨(some 12), .mv (.t 0), none, [], false⟩,
                ⟨(some 13), .mv (.t 5), none, [], false⟩,
                ⟨(some 14), .iad 1 (.t 12) (.t 13), none, [], false⟩,
                ⟨(some 15), .ld1 (.t 14), none, [], false⟩,
                ⟨(some 16), .bin .eql (.t 11) (.t 15), none, [], false⟩])
              (.cond (.t 16) (.seq (.reg [
                  ⟨(some 17), .mv (.t 5), none, [], false⟩,
                  ⟨(some 4), .mv (.t 17), none, [], false⟩])
                (.ret))
               (.skip)))))
           (.reg [
             ⟨(some 18), .bin .add (.t 8) (.k (.int .i64 1)), none, [], false⟩,
             ⟨(some 8), .mv (.t 18), none, [], false⟩])))))))
     (.seq (.reg [
        ⟨(some 4), .mv (.k (.int .i64 (-1))), none, [], false⟩])
      (.ret)))
/-- slices.Contains[[]int,int] -/
def c31 : CF where
  np := 2
  nt := 9
  res := [.t 4]
  code := .seq (.reg [
      ⟨(some 4), .mv (.k (.bool false)), none, [], false⟩])
    (.seq (.reg [
       ⟨(some 5), .mv (.t 0), none, [], false⟩,
       ⟨(some 6), .mv (.t 1), none, [], false⟩,
       ⟨(some 7), .call (.k (.fn 67 [])) [(.t 5), (.t 6)], none, [], false⟩,
       ⟨(some 8), .bin .geq (.t 7) (.k (.int .i64 0)), none, [], false⟩,
       ⟨(some 4), .mv (.t 8), none, [], false⟩])
     (.ret))
/-- cmp.isNaN[int] -/
def c104 : CF where
  np := 1
  nt := 6
  res := [.t 2]
  code := .seq (.reg [
      ⟨(some 2), .mv (.k (.bool false)), none, [], false⟩])
    (.seq (.reg [
       ⟨(some 3), .mv (.t 0), none, [], false⟩,
       ⟨(some 4), .mv (.t 0), none, [], false⟩,
       ⟨(some 5), .bin .neq (.t 3) (.t 4), none, [], false⟩,
       ⟨(some 2), .mv (.t 5), none, [], false⟩])
     (.ret))
/-- cmp.Less[int] -/
def c68 : CF where
  np := 2
  nt := 17
  res := [.t 4]
  code := .seq (.reg [
      ⟨(some 4), .mv (.k (.bool false)), none, [], false⟩])
    (.seq (.reg [
       ⟨(some 5), .mv (.t 0), none, [], false⟩,
       ⟨(some 6), .call (.k (.fn 104 [])) [(.t 5)], none, [], false⟩,
       ⟨(some 7), .mv (.t 6), none, [], false⟩,
       ⟨(some 8), .mv (.t 1), (some (7, true)), [], false⟩,
       ⟨(some 9), .call (.k (.fn 104 [])) [(.t 8)], (some (7, true)), [], false⟩,
       ⟨(some 10), .un .not (.t 9), (some (7, true)), [], false⟩,
       ⟨(some 11), .pick (.t 7) (.t 10) (.k (.bool false)), none, [], false⟩,
       ⟨(some 12), .mv (.t 11), none, [], false⟩,
       ⟨(some 13), .mv (.t 0), (some (12, false)), [], false⟩,
       ⟨(some 14), .mv (.t 1), (some (12, false)), [], false⟩,
       ⟨(some 15), .bin .lss (.t 13) (.t 14), (some (12, false)), [], false⟩,
       ⟨(some 16), .pick (.t 12) (.k (.bool true)) (.t 15), none, [], false⟩,
       ⟨(some 4), .mv (.t 16), none, [], false⟩])
     (.ret))
/-- slices.IsSorted[[]int,int] -/
def c32 : CF where
  np := 1
  nt := 21
  res := [.t 2]
  code := .seq (.reg [
      ⟨(some 2), .mv (.k (.bool false)), none, [], false⟩])
    (.seq (.seq (.reg [
        ⟨(some 4), .mv (.t 0), none, [], false⟩,
        ⟨(some 5), .lenv false (.t 4), none, [], false⟩,
        ⟨(some 6), .bin .sub (.t 5) (.k (.int .i64 1)), none, [], false⟩,
        ⟨(some 3), .mv (.t 6), none, [], false⟩])
      (.blk 0 (.loop (.seq (.seq (.reg [
            ⟨(some 7), .mv (.t 3), none, [], false⟩,
            ⟨(some 8), .bin .gtr (.t 7) (.k (.int .i64 0)), none, [], false⟩])
          (.cond (.t 8) (.skip)
           (.exit 0)))
         (.seq (.blk 1 (.seq (.reg [
              ⟨(some 11), .mv (.t 0), none, [], false⟩,
              ⟨(some 12), .mv (.t 3), none, [], false⟩,
              ⟨(some 13), .iad 1 (.t 11) (.t 12), none, [], false⟩,
              ⟨(some 14), .ld1 (.t 13), none, [], false⟩,
              ⟨(some 15), .mv (.t 0), none, [], false⟩,
              ⟨(some 16), .mv (.t 3), none, [], false⟩,
              ⟨(some 17), .bin .sub (.t 16) (.k (.int .i64 1)), none, [], false⟩,
              ⟨(some 18), .iad 1 (.t 15) (.t 17), none, [], false⟩,
              ⟨(some 19), .ld1 (.t 18), none, [], false⟩,
              ⟨(some 20), .call (.k (.fn 68 [])) [(.t 14), (.t 19)], none, [], false⟩])
            (.cond (.t 20) (.seq (.reg [
                ⟨(some 2), .mv (.k (.bool false)), none, [], false⟩])
              (.ret))
             (.skip))))
          (.reg [
            ⟨(some 9), .mv (.t 3), none, [], false⟩,
            ⟨(some 10), .bin .sub (.t 9) (.k (.int .i64 1)), none, [], false⟩,
            ⟨(some 3), .mv (.t 10), none, [], false⟩]))))))
     (.seq (.reg [
        ⟨(some 2), .mv (.k (.bool true)), none, [], false⟩])
      (.ret)))
/-- skyway/skywaykeep2.PairUnique -/
def c8 : CF where
  np := 4
  nt := 172
  res := [.t 8]
  code := .seq (.reg [
      ⟨(some 8), .mv (.k (.bool false)), none, [], false⟩])
    (.seq (.reg [
       ⟨(some 25), .mk [.int .i64 0, .int .i64 0] [(0, 1, (.k (.int .i64 10000)))], none, [], false⟩,
       ⟨(some 26), .mk [.int .i64 0, .int .i64 0, .int .i64 0, .int .i64 0, .int .i64 0, .int .i64 0, .int .i64 0, .int .i64 0, .int .i64 0, .int .i64 0, .int .i64 0, .int .i64 0, .int .i64 0] [(2, 1, (.k (.int .i64 50))), (3, 2, (.t 25)), (7, 1, (.k (.int .i64 5000))), (10, 1, (.k (.int .i64 7)))], none, [], false⟩,
       ⟨(some 9), .new [.int .i64 0, .int .i64 0, .int .i64 0, .int .i64 0, .int .i64 0, .int .i64 0, .int .i64 0, .int .i64 0, .int .i64 0, .int .i64 0, .int .i64 0, .int .i64 0, .int .i64 0], none, [], false⟩,
       ⟨none, .st 13 (.t 9) (.t 26), none, [], false⟩])
     (.seq (.seq (.reg [
         ⟨(some 28), .ldn 13 (.t 9), none, [], false⟩,
         ⟨(some 29), .mks [.int .i64 0, .int .i64 0, .int .i64 0, .int .i64 0, .int .i64 0, .int .i64 0, .int .i64 0, .int .i64 0, .int .i64 0, .int .i64 0, .int .i64 0, .int .i64 0, .int .i64 0] 13 1 [(0, 13, (.t 28))], none, [], false⟩,
         ⟨(some 32), .mks [.int .i64 0] 1 1 [(0, 1, (.k (.int .i64 7)))], none, [], false⟩,
         ⟨(some 30), .call (.k (.fn 26 [])) [(.k (.int .i64 100)), (.k (.int .i64 300))], none, [], true⟩,
         ⟨(some 31), .mks [.sl true 0 0 0 0 0] 1 1 [(0, 1, (.t 30))], none, [], false⟩,
         ⟨(some 33), .call (.k (.fn 25 [])) [(.t 29), (.t 31), (.t 32)], none, [], false⟩,
         ⟨(some 27), .mv (.t 33), none, [], false⟩,
         ⟨(some 34), .ext (.t 27) 0, none, [], false⟩,
         ⟨(some 35), .ext (.t 27) 1, none, [], false⟩,
         ⟨(some 10), .mv (.t 34), none, [], false⟩,
         ⟨(some 11), .mv (.t 35), none, [], false⟩])
       (.seq (.reg [
          ⟨(some 36), .mv (.t 11), none, [], false⟩,
          ⟨(some 37), .bin .neq (.t 36) (.k (.int .i64 0)), none, [], false⟩,
          ⟨(some 38), .mv (.t 37), none, [], false⟩,
          ⟨(some 39), .mv (.t 10), (some (38, false)), [], false⟩,
          ⟨(some 40), .mks [.int .i64 0] 1 1 [(0, 1, (.k (.int .i64 0)))], (some (38, false)), [], false⟩,
          ⟨(some 41), .call (.k (.fn 27 [])) [(.t 39), (.t 40)], (some (38, false)), [], false⟩,
          ⟨(some 42), .un .not (.t 41), (some (38, false)), [], false⟩,
          ⟨(some 43), .pick (.t 38) (.k (.bool true)) (.t 42), none, [], false⟩])
        (.cond (.t 43) (.seq (.reg [
            ⟨(some 8), .mv (.k (.bool false)), none, [], false⟩])
          (.ret))
         (.skip))))
      (.seq (.reg [
         ⟨(some 44), .mv (.t 0), none, [], false⟩,
         ⟨(some 45), .mv (.t 0), none, [], false⟩,
         ⟨(some 46), .lenv false (.t 45), none, [], false⟩,
         ⟨(some 47), .mnx false (.t 46) [(.k (.int .i64 6))], none, [], false⟩,
         ⟨(some 48), .slc 13 (.t 44) none (some (.t 47)), none, [], false⟩,
         ⟨(some 49), .mv (.t 1), none, [], false⟩,
         ⟨(some 50), .mv (.t 1), none, [], false⟩,
         ⟨(some 51), .lenv false (.t 50), none, [], false⟩,
         ⟨(some 52), .mnx false (.t 51) [(.k (.int .i64 5))], none, [], false⟩,
         ⟨(some 53), .slc 1 (.t 49) none (some (.t 52)), none, [], false⟩,
         ⟨(some 0), .mv (.t 48), none, [], false⟩,
         ⟨(some 1), .mv (.t 53), none, [], false⟩])
       (.seq (.reg [
          ⟨(some 55), .mv (.t 0), none, [], false⟩,
          ⟨(some 56), .mv (.t 1), none, [], false⟩,
          ⟨(some 57), .mv (.t 2), none, [], false⟩,
          ⟨(some 58), .call (.k (.fn 25 [])) [(.t 55), (.t 56), (.t 57)], none, [], false⟩,
          ⟨(some 54), .mv (.t 58), none, [], false⟩,
          ⟨(some 59), .ext (.t 54) 0, none, [], false⟩,
          ⟨(some 60), .ext (.t 54) 1, none, [], false⟩,
          ⟨(some 12), .mv (.t 59), none, [], false⟩,
          ⟨(some 13), .mv (.t 60), none, [], false⟩])
        (.seq (.seq (.reg [
            ⟨(some 61), .mv (.t 13), none, [], false⟩,
            ⟨(some 62), .bin .neq (.t 61) (.k (.int .i64 0)), none, [], false⟩])
          (.cond (.t 62) (.seq (.reg [
              ⟨(some 63), .mv (.t 12), none, [], false⟩,
              ⟨(some 64), .lenv false (.t 63), none, [], false⟩,
              ⟨(some 65), .bin .eql (.t 64) (.k (.int .i64 0)), none, [], false⟩,
              ⟨(some 8), .mv (.t 65), none, [], false⟩])
            (.ret))
           (.skip)))
         (.seq (.seq (.reg [
             ⟨(some 66), .mv (.t 12), none, [], false⟩,
             ⟨(some 67), .lenv false (.t 66), none, [], false⟩,
             ⟨(some 68), .mv (.t 0), none, [], false⟩,
             ⟨(some 69), .lenv false (.t 68), none, [], false⟩,
             ⟨(some 70), .bin .neq (.t 67) (.t 69), none, [], false⟩])
           (.cond (.t 70) (.seq (.reg [
               ⟨(some 8), .mv (.k (.bool false)), none, [], false⟩])
             (.ret))
            (.skip)))
          (.seq (.reg [
             ⟨(some 71), .mv (.t 1), none, [], false⟩,
             ⟨(some 72), .lenv false (.t 71), none, [], false⟩,
             ⟨(some 73), .mksl [.bool false] 1 (.t 72) (.t 72), none, [], false⟩,
             ⟨(some 14), .mv (.t 73), none, [], false⟩])
           (.seq (.seq (.reg [
               ⟨(some 74), .mv (.t 12), none, [], false⟩,
               ⟨(some 75), .lenv false (.t 74), none, [], false⟩,
               ⟨(some 76), .mv (.k (.int .i64 0)), none, [], false⟩])
             (.blk 0 (.loop (.seq (.reg [
                  ⟨(some 77), .bin .lss (.t 76) (.t 75), none, [], false⟩])
                (.seq (.cond (.t 77) (.skip)
                  (.exit 0))
                 (.seq (.blk 1 (.seq (.reg [
                      ⟨(some 78), .mv (.t 76), none, [], false⟩,
                      ⟨(some 79), .iad 1 (.t 74) (.t 76), none, [], false⟩,
                      ⟨(some 80), .ld1 (.t 79), none, [], false⟩,
                      ⟨(some 15), .mv (.t 78), none, [], false⟩,
                      ⟨(some 16), .mv (.t 80), none, [], false⟩])
                    (.seq (.seq (.reg [
                        ⟨(some 81), .mv (.t 16), none, [], false⟩,
                        ⟨(some 82), .bin .lss (.t 81) (.k (.int .i64 0)), none, [], false⟩])
                      (.cond (.t 82) (.exit 1)
                       (.skip)))
                     (.seq (.reg [
                        ⟨(some 84), .mv (.t 0), none, [], false⟩,
                        ⟨(some 85), .mv (.t 15), none, [], false⟩,
                        ⟨(some 86), .iad 13 (.t 84) (.t 85), none, [], false⟩,
                        ⟨(some 87), .ldn 13 (.t 86), none, [], false⟩,
                        ⟨(some 88), .mv (.t 1), none, [], false⟩,
                        ⟨(some 89), .mv (.t 16), none, [], false⟩,
                        ⟨(some 90), .iad 1 (.t 88) (.t 89), none, [], false⟩,
                        ⟨(some 91), .ld1 (.t 90), none, [], false⟩,
                        ⟨(some 92), .call (.k (.fn 28 [])) [(.t 87), (.t 91)], none, [], false⟩,
                        ⟨(some 83), .mv (.t 92), none, [], false⟩,
                        ⟨(some 93), .ext (.t 83) 0, none, [], false⟩,
                        ⟨(some 94), .ext (.t 83) 1, none, [], false⟩,
                        ⟨(some 17), .mv (.t 93), none, [], false⟩,
                        ⟨(some 18), .mv (.t 94), none, [], false⟩])
                      (.seq (.seq (.reg [
                          ⟨(some 95), .mv (.t 18), none, [], false⟩,
                          ⟨(some 96), .bin .neq (.t 95) (.k (.int .i64 0)), none, [], false⟩,
                          ⟨(some 97), .mv (.t 96), none, [], false⟩,
                          ⟨(some 98), .mv (.t 17), (some (97, false)), [], false⟩,
                          ⟨(some 99), .un .not (.t 98), (some (97, false)), [], false⟩,
                          ⟨(some 100), .pick (.t 97) (.k (.bool true)) (.t 99), none, [], false⟩,
                          ⟨(some 101), .mv (.t 100), none, [], false⟩,
                          ⟨(some 102), .mv (.t 14), (some (101, false)), [], false⟩,
                          ⟨(some 103), .mv (.t 16), (some (101, false)), [], false⟩,
                          ⟨(some 104), .iad 1 (.t 102) (.t 103), (some (101, false)), [], false⟩,
                          ⟨(some 105), .ld1 (.t 104), (some (101, false)), [], false⟩,
                          ⟨(some 106), .pick (.t 101) (.k (.bool true)) (.t 105), none, [], false⟩,
                          ⟨(some 107), .mv (.t 106), none, [], false⟩,
                          ⟨(some 108), .mv (.t 0), (some (107, false)), [], false⟩,
                          ⟨(some 109), .mv (.t 15), (some (107, false)), [], false⟩,
                          ⟨(some 110), .iad 13 (.t 108) (.t 109), (some (107, false)), [], false⟩,
                          ⟨(some 111), .fad 10 (.t 110), (some (107, false)), [], false⟩,
                          ⟨(some 112), .ld1 (.t 111), (some (107, false)), [], false⟩,
                          ⟨(some 113), .bin .geq (.t 112) (.k (.int .i64 0)), (some (107, false)), [], false⟩,
                          ⟨(some 114), .mv (.t 113), (some (107, false)), [], false⟩,
                          ⟨(some 115), .mv (.t 0), (some (114, true)), [], false⟩,
                          ⟨(some 116), .mv (.t 15), (some (114, true)), [], false⟩,
                          ⟨(some 117), .iad 13 (.t 115) (.t 116), (some (114, true)), [], false⟩,
                          ⟨(some 118), .fad 10 (.t 117), (some (114, true)), [], false⟩,
                          ⟨(some 119), .ld1 (.t 118), (some (114, true)), [], false⟩,
                          ⟨(some 120), .mv (.t 2), (some (114, true)), [], false⟩,
                          ⟨(some 121), .mv (.t 16), (some (114, true)), [], false⟩,
                          ⟨(some 122), .iad 1 (.t 120) (.t 121), (some (114, true)), [], false⟩,
                          ⟨(some 123), .ld1 (.t 122), (some (114, true)), [], false⟩,
                          ⟨(some 124), .bin .neq (.t 119) (.t 123), (some (114, true)), [], false⟩,
                          ⟨(some 125), .pick (.t 114) (.t 124) (.k (.bool false)), (some (107, false)), [], false⟩,
                          ⟨(some 126), .pick (.t 107) (.k (.bool true)) (.t 125), none, [], false⟩])
                        (.cond (.t 126) (.seq (.reg [
                            ⟨(some 8), .mv (.k (.bool false)), none, [], false⟩])
                          (.ret))
                         (.skip)))
                       (.reg [
                         ⟨(some 127), .mv (.t 14), none, [], false⟩,
                         ⟨(some 128), .mv (.t 16), none, [], false⟩,
                         ⟨(some 129), .iad 1 (.t 127) (.t 128), none, [], false⟩,
                         ⟨none, .st 1 (.t 129) (.k (.bool true)), none, [], false⟩]))))))
                  (.reg [
                    ⟨(some 130), .bin .add (.t 76) (.k (.int .i64 1)), none, [], false⟩,
                    ⟨(some 76), .mv (.t 130), none, [], false⟩])))))))
            (.seq (.reg [
               ⟨(some 132), .mv (.t 12), none, [], false⟩,
               ⟨(some 133), .mv (.t 1), none, [], false⟩,
               ⟨(some 134), .mv (.t 2), none, [], false⟩,
               ⟨(some 135), .mv (.t 3), none, [], false⟩,
               ⟨(some 136), .call (.k (.fn 29 [])) [(.t 132), (.t 133), (.t 134), (.t 135)], none, [], false⟩,
               ⟨(some 131), .mv (.t 136), none, [], false⟩,
               ⟨(some 137), .ext (.t 131) 0, none, [], false⟩,
               ⟨(some 138), .ext (.t 131) 1, none, [], false⟩,
               ⟨(some 19), .mv (.t 137), none, [], false⟩,
               ⟨(some 20), .mv (.t 138), none, [], false⟩])
             (.seq (.seq (.reg [
                 ⟨(some 139), .mv (.t 1), none, [], false⟩,
                 ⟨(some 140), .lenv false (.t 139), none, [], false⟩,
                 ⟨(some 141), .mv (.k (.int .i64 0)), none, [], false⟩])
               (.blk 2 (.loop (.seq (.reg [
                    ⟨(some 142), .bin .lss (.t 141) (.t 140), none, [], false⟩])
                  (.seq (.cond (.t 142) (.skip)
                    (.exit 2))
                   (.seq (.blk 3 (.seq (.reg [
                        ⟨(some 143), .mv (.t 141), none, [], false⟩,
                        ⟨(some 144), .iad 1 (.t 139) (.t 141), none, [], false⟩,
                        ⟨(some 145), .ld1 (.t 144), none, [], false⟩,
                        ⟨(some 21), .mv (.t 143), none, [], false⟩,
                        ⟨(some 22), .mv (.t 145), none, [], false⟩])
                      (.seq (.reg [
                         ⟨(some 147), .mv (.t 22), none, [], false⟩,
                         ⟨(some 148), .mv (.t 3), none, [], false⟩,
                         ⟨(some 149), .call (.k (.fn 30 [])) [(.t 147), (.t 148)], none, [], false⟩,
                         ⟨(some 146), .mv (.t 149), none, [], false⟩,
                         ⟨(some 150), .ext (.t 146) 0, none, [], false⟩,
                         ⟨(some 151), .ext (.t 146) 1, none, [], false⟩,
                         ⟨(some 23), .new [.int .i64 0, .int .i64 0, .int .i64 0, .int .i64 0, .int .i64 0, .int .i64 0], none, [], false⟩,
                         ⟨none, .st 6 (.t 23) (.t 150), none, [], false⟩,
                         ⟨(some 24), .mv (.t 151), none, [], false⟩])
                       (.seq (.reg [
                          ⟨(some 152), .mv (.t 19), none, [], false⟩,
                          ⟨(some 153), .mv (.t 21), none, [], false⟩,
                          ⟨(some 154), .call (.k (.fn 31 [])) [(.t 152), (.t 153)], none, [], false⟩,
                          ⟨(some 155), .mv (.t 24), none, [], false⟩,
                          ⟨(some 156), .bin .eql (.t 155) (.k (.int .i64 0)), none, [], false⟩,
                          ⟨(some 157), .mv (.t 156), none, [], false⟩,
                          ⟨(some 158), .mv (.t 14), (some (157, true)), [], false⟩,
                          ⟨(some 159), .mv (.t 21), (some (157, true)), [], false⟩,
                          ⟨(some 160), .iad 1 (.t 158) (.t 159), (some (157, true)), [], false⟩,
                          ⟨(some 161), .ld1 (.t 160), (some (157, true)), [], false⟩,
                          ⟨(some 162), .un .not (.t 161), (some (157, true)), [], false⟩,
                          ⟨(some 163), .pick (.t 157) (.t 162) (.k (.bool false)), none, [], false⟩,
                          ⟨(some 164), .eqs true none (.t 154) (.t 163), none, [], false⟩])
                        (.cond (.t 164) (.seq (.reg [
                            ⟨(some 8), .mv (.k (.bool false)), none, [], false⟩])
                          (.ret))
                         (.skip))))))
                    (.reg [
                      ⟨(some 165), .bin .add (.t 141) (.k (.int .i64 1)), none, [], false⟩,
                      ⟨(some 141), .mv (.t 165), none, [], false⟩])))))))
              (.seq (.reg [
                 ⟨(some 166), .mv (.t 20), none, [], false⟩,
                 ⟨(some 167), .bin .eql (.t 166) (.k (.int .i64 0)), none, [], false⟩,
                 ⟨(some 168), .mv (.t 167), none, [], false⟩,
                 ⟨(some 169), .mv (.t 19), (some (168, true)), [], false⟩,
                 ⟨(some 170), .call (.k (.fn 32 [])) [(.t 169)], (some (168, true)), [], false⟩,
                 ⟨(some 171), .pick (.t 168) (.t 170) (.k (.bool false)), none, [], false⟩,
                 ⟨(some 8), .mv (.t 171), none, [], false⟩])
               (.ret))))))))))))
theorem ok26 : cFunc Try.prog Try.f26 = some c26 := by kernel_rfl
theorem ok53 : cFunc Try.prog Try.f53 = some c53 := by kernel_rfl
theorem ok18 : cFunc Try.prog Try.f18 = some c18 := by kernel_rfl
theorem ok65 : cFunc Try.prog Try.f65 = some c65 := by kernel_rfl
theorem ok63 : cFunc Try.prog Try.f63 = some c63 := by kernel_rfl
theorem ok121 : cFunc Try.prog Try.f121 = some c121 := by kernel_rfl
theorem ok101 : cFunc Try.prog Try.f101 = some c101 := by kernel_rfl
theorem ok102 : cFunc Try.prog Try.f102 = some c102 := by kernel_rfl
theorem ok122 : cFunc Try.prog Try.f122 = some c122 := by kernel_rfl
theorem ok103 : cFunc Try.prog Try.f103 = some c103 := by kernel_rfl
theorem ok66 : cFunc Try.prog Try.f66 = some c66 := by kernel_rfl
theorem ok30 : cFunc Try.prog Try.f30 = some c30 := by kernel_rfl
theorem ok64 : cFunc Try.prog Try.f64 = some c64 := by kernel_rfl
theorem ok28 : cFunc Try.prog Try.f28 = some c28 := by kernel_rfl
theorem ok62 : cFunc Try.prog Try.f62 = some c62 := by kernel_rfl
theorem ok46 : cFunc Try.prog Try.f46 = some c46 := by kernel_rfl
theorem ok87 : cFunc Try.prog Try.f87 = some c87 := by kernel_rfl
theorem ok47 : cFunc Try.prog Try.f47 = some c47 := by kernel_rfl
theorem ok88 : cFunc Try.prog Try.f88 = some c88 := by kernel_rfl
theorem ok48 : cFunc Try.prog Try.f48 = some c48 := by kernel_rfl
theorem ok89 : cFunc Try.prog Try.f89 = some c89 := by kernel_rfl
theorem ok49 : cFunc Try.prog Try.f49 = some c49 := by kernel_rfl
theorem ok13 : cFunc Try.prog Try.f13 = some c13 := by kernel_rfl
theorem ok25 : cFunc Try.prog Try.f25 = some c25 := by kernel_rfl
theorem ok27 : cFunc Try.prog Try.f27 = some c27 := by kernel_rfl
theorem ok29 : cFunc Try.prog Try.f29 = some c29 := by kernel_rfl
theorem ok67 : cFunc Try.prog Try.f67 = some c67 := by kernel_rfl
theorem ok31 : cFunc Try.prog Try.f31 = some c31 := by kernel_rfl
theorem ok104 : cFunc Try.prog Try.f104 = some c104 := by kernel_rfl
theorem ok68 : cFunc Try.prog Try.f68 = some c68 := by kernel_rfl
theorem ok32 : cFunc Try.prog Try.f32 = some c32 := by kernel_rfl
theorem ok8 : cFunc Try.prog Try.f8 = some c8 := by kernel_rfl
end Go.Proofs.Ytaekgifbehoipaa.CodeAll
