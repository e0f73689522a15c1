/- The code of CoastTurns and of what it calls, for the abstract machine; each is what the function of the program is turned into. No condition. -/
import Derived.Test.YtpcmmbbkidojoaaEvaO
import Derived.Test.YtpcmmbbkidojoaaChecked
import Derived.KernelRfl
namespace Go.Proofs.Ytpcmmbbkidojoaa.CodeCoastTurns
open Go Go.Proofs.Ytpcmmbbkidojoaa.Eva
/-- skyway/filter.Check$1 -/
def c81 : CF where
  np := 1
  nt := 9
  res := [.t 2]
  code := .seq (.reg [
      ⟨(some 2), .mv (.k (.bool false)), none, [], false⟩])
    (.seq (.reg [
       ⟨(some 3), .mv (.t 0), none, [], false⟩,
       ⟨(some 4), .bin .lss (.t 3) (.k (.int .i64 (-12800))), none, [], false⟩,
       ⟨(some 5), .mv (.t 4), none, [], false⟩,
       ⟨(some 6), .mv (.t 0), (some (5, false)), [], false⟩,
       ⟨(some 7), .bin .gtr (.t 6) (.k (.int .i64 12800)), (some (5, false)), [], false⟩,
       ⟨(some 8), .pick (.t 5) (.k (.bool true)) (.t 7), none, [], false⟩,
       ⟨(some 2), .mv (.t 8), none, [], false⟩])
     (.ret))
/-- skyway/radar.placed -/
def c80 : CF where
  np := 1
  nt := 21
  res := [.t 2]
  code := .seq (.reg [
      ⟨(some 1), .box (.t 0), none, [], false⟩,
      ⟨(some 2), .mv (.k (.bool false)), none, [], false⟩])
    (.seq (.reg [
       ⟨(some 3), .fad 0 (.t 1), none, [], false⟩,
       ⟨(some 4), .ld1 (.t 3), none, [], false⟩,
       ⟨(some 5), .bin .geq (.t 4) (.k (.int .i64 (-1000000))), none, [], false⟩,
       ⟨(some 6), .mv (.t 5), none, [], false⟩,
       ⟨(some 7), .fad 0 (.t 1), (some (6, true)), [], false⟩,
       ⟨(some 8), .ld1 (.t 7), (some (6, true)), [], false⟩,
       ⟨(some 9), .bin .leq (.t 8) (.k (.int .i64 1000000)), (some (6, true)), [], false⟩,
       ⟨(some 10), .pick (.t 6) (.t 9) (.k (.bool false)), none, [], false⟩,
       ⟨(some 11), .mv (.t 10), none, [], false⟩,
       ⟨(some 12), .fad 1 (.t 1), (some (11, true)), [], false⟩,
       ⟨(some 13), .ld1 (.t 12), (some (11, true)), [], false⟩,
       ⟨(some 14), .bin .geq (.t 13) (.k (.int .i64 (-1000000))), (some (11, true)), [], false⟩,
       ⟨(some 15), .pick (.t 11) (.t 14) (.k (.bool false)), none, [], false⟩,
       ⟨(some 16), .mv (.t 15), none, [], false⟩,
       ⟨(some 17), .fad 1 (.t 1), (some (16, true)), [], false⟩,
       ⟨(some 18), .ld1 (.t 17), (some (16, true)), [], false⟩,
       ⟨(some 19), .bin .leq (.t 18) (.k (.int .i64 1000000)), (some (16, true)), [], false⟩,
       ⟨(some 20), .pick (.t 16) (.t 19) (.k (.bool false)), none, [], false⟩,
       ⟨(some 2), .mv (.t 20), none, [], false⟩])
     (.ret))
/-- skyway/radar.CheckSpot -/
def c56 : CF where
  np := 1
  nt := 47
  res := [.t 2]
  code := .seq (.reg [
      ⟨(some 1), .box (.t 0), none, [], false⟩,
      ⟨(some 2), .mv (.k (.int .i64 0)), none, [], false⟩])
    (.seq (.seq (.reg [
        ⟨(some 3), .fad 0 (.t 1), none, [], false⟩,
        ⟨(some 4), .ld1 (.t 3), none, [], false⟩,
        ⟨(some 5), .bin .lss (.t 4) (.k (.int .i64 0)), none, [], false⟩,
        ⟨(some 6), .mv (.t 5), none, [], false⟩,
        ⟨(some 7), .fad 0 (.t 1), (some (6, false)), [], false⟩,
        ⟨(some 8), .ld1 (.t 7), (some (6, false)), [], false⟩,
        ⟨(some 9), .bin .gtr (.t 8) (.k (.int .i64 200000)), (some (6, false)), [], false⟩,
        ⟨(some 10), .pick (.t 6) (.k (.bool true)) (.t 9), none, [], false⟩,
        ⟨(some 11), .mv (.t 10), none, [], false⟩,
        ⟨(some 12), .fad 1 (.t 1), (some (11, false)), [], false⟩,
        ⟨(some 13), .ldn 2 (.t 12), (some (11, false)), [], false⟩,
        ⟨(some 14), .call (.k (.fn 80 [])) [(.t 13)], (some (11, false)), [], false⟩,
        ⟨(some 15), .un .not (.t 14), (some (11, false)), [], false⟩,
        ⟨(some 16), .pick (.t 11) (.k (.bool true)) (.t 15), none, [], false⟩,
        ⟨(some 17), .mv (.t 16), none, [], false⟩,
        ⟨(some 18), .fad 3 (.t 1), (some (17, false)), [], false⟩,
        ⟨(some 19), .ld1 (.t 18), (some (17, false)), [], false⟩,
        ⟨(some 20), .bin .lss (.t 19) (.k (.int .i64 0)), (some (17, false)), [], false⟩,
        ⟨(some 21), .pick (.t 17) (.k (.bool true)) (.t 20), none, [], false⟩,
        ⟨(some 22), .mv (.t 21), none, [], false⟩,
        ⟨(some 23), .fad 3 (.t 1), (some (22, false)), [], false⟩,
        ⟨(some 24), .ld1 (.t 23), (some (22, false)), [], false⟩,
        ⟨(some 25), .bin .gtr (.t 24) (.k (.int .i64 60000)), (some (22, false)), [], false⟩,
        ⟨(some 26), .pick (.t 22) (.k (.bool true)) (.t 25), none, [], false⟩,
        ⟨(some 27), .mv (.t 26), none, [], false⟩,
        ⟨(some 28), .fad 4 (.t 1), (some (27, false)), [], false⟩,
        ⟨(some 29), .ld1 (.t 28), (some (27, false)), [], false⟩,
        ⟨(some 30), .bin .lss (.t 29) (.k (.int .i64 (-1))), (some (27, false)), [], false⟩,
        ⟨(some 31), .pick (.t 27) (.k (.bool true)) (.t 30), none, [], false⟩,
        ⟨(some 32), .mv (.t 31), none, [], false⟩,
        ⟨(some 33), .fad 4 (.t 1), (some (32, false)), [], false⟩,
        ⟨(some 34), .ld1 (.t 33), (some (32, false)), [], false⟩,
        ⟨(some 35), .bin .gtr (.t 34) (.k (.int .i64 4095)), (some (32, false)), [], false⟩,
        ⟨(some 36), .pick (.t 32) (.k (.bool true)) (.t 35), none, [], false⟩,
        ⟨(some 37), .mv (.t 36), none, [], false⟩,
        ⟨(some 38), .fad 5 (.t 1), (some (37, false)), [], false⟩,
        ⟨(some 39), .ld1 (.t 38), (some (37, false)), [], false⟩,
        ⟨(some 40), .bin .lss (.t 39) (.k (.int .i64 0)), (some (37, false)), [], false⟩,
        ⟨(some 41), .pick (.t 37) (.k (.bool true)) (.t 40), none, [], false⟩,
        ⟨(some 42), .mv (.t 41), none, [], false⟩,
        ⟨(some 43), .fad 5 (.t 1), (some (42, false)), [], false⟩,
        ⟨(some 44), .ld1 (.t 43), (some (42, false)), [], false⟩,
        ⟨(some 45), .bin .gtr (.t 44) (.k (.int .i64 1000000)), (some (42, false)), [], false⟩,
        ⟨(some 46), .pick (.t 42) (.k (.bool true)) (.t 45), none, [], false⟩])
      (.cond (.t 46) (.seq (.reg [
          ⟨(some 2), .mv (.k (.int .i64 4)), none, [], false⟩])
        (.ret))
       (.skip)))
     (.seq (.reg [
        ⟨(some 2), .mv (.k (.int .i64 0)), none, [], false⟩])
      (.ret)))
/-- skyway/filter.Check -/
def c51 : CF where
  np := 1
  nt := 127
  res := [.t 2]
  code := .seq (.reg [
      ⟨(some 1), .box (.t 0), none, [], false⟩,
      ⟨(some 2), .mv (.k (.int .i64 0)), none, [], false⟩])
    (.seq (.reg [
       ⟨(some 6), .fad 0 (.t 1), none, [], false⟩,
       ⟨(some 7), .ldn 13 (.t 6), none, [], false⟩,
       ⟨(some 3), .new [.int .i64 0, .int .i64 0, .int .i64 0, .int .i64 0, .int .i64 0, .int .i64 0, .int .i64 0, .int .i64 0, .int .i64 0, .int .i64 0, .int .i64 0, .int .i64 0, .int .i64 0], none, [], false⟩,
       ⟨none, .st 13 (.t 3) (.t 7), none, [], false⟩])
     (.seq (.reg [
        ⟨(some 4), .mv (.k (.fn 81 [])), none, [], false⟩])
      (.seq (.blk 0 (.seq (.seq (.reg [
            ⟨(some 9), .fad 2 (.t 3), none, [], false⟩,
            ⟨(some 10), .ld1 (.t 9), none, [], false⟩,
            ⟨(some 11), .bin .lss (.t 10) (.k (.int .i64 0)), none, [], false⟩,
            ⟨(some 12), .mv (.t 11), none, [], false⟩,
            ⟨(some 13), .fad 2 (.t 3), (some (12, false)), [], false⟩,
            ⟨(some 14), .ld1 (.t 13), (some (12, false)), [], false⟩,
            ⟨(some 15), .bin .gtr (.t 14) (.k (.int .i64 200000)), (some (12, false)), [], false⟩,
            ⟨(some 16), .pick (.t 12) (.k (.bool true)) (.t 15), none, [], false⟩,
            ⟨(some 17), .mv (.t 16), none, [], false⟩,
            ⟨(some 18), .fad 3 (.t 3), (some (17, false)), [], false⟩,
            ⟨(some 19), .fad 0 (.t 18), (some (17, false)), [], false⟩,
            ⟨(some 20), .ld1 (.t 19), (some (17, false)), [], false⟩,
            ⟨(some 21), .bin .lss (.t 20) (.k (.int .i64 (-1000000))), (some (17, false)), [], false⟩,
            ⟨(some 22), .pick (.t 17) (.k (.bool true)) (.t 21), none, [], false⟩,
            ⟨(some 23), .mv (.t 22), none, [], false⟩,
            ⟨(some 24), .fad 3 (.t 3), (some (23, false)), [], false⟩,
            ⟨(some 25), .fad 0 (.t 24), (some (23, false)), [], false⟩,
            ⟨(some 26), .ld1 (.t 25), (some (23, false)), [], false⟩,
            ⟨(some 27), .bin .gtr (.t 26) (.k (.int .i64 1000000)), (some (23, false)), [], false⟩,
            ⟨(some 28), .pick (.t 23) (.k (.bool true)) (.t 27), none, [], false⟩,
            ⟨(some 29), .mv (.t 28), none, [], false⟩,
            ⟨(some 30), .fad 3 (.t 3), (some (29, false)), [], false⟩,
            ⟨(some 31), .fad 1 (.t 30), (some (29, false)), [], false⟩,
            ⟨(some 32), .ld1 (.t 31), (some (29, false)), [], false⟩,
            ⟨(some 33), .bin .lss (.t 32) (.k (.int .i64 (-1000000))), (some (29, false)), [], false⟩,
            ⟨(some 34), .pick (.t 29) (.k (.bool true)) (.t 33), none, [], false⟩,
            ⟨(some 35), .mv (.t 34), none, [], false⟩,
            ⟨(some 36), .fad 3 (.t 3), (some (35, false)), [], false⟩,
            ⟨(some 37), .fad 1 (.t 36), (some (35, false)), [], false⟩,
            ⟨(some 38), .ld1 (.t 37), (some (35, false)), [], false⟩,
            ⟨(some 39), .bin .gtr (.t 38) (.k (.int .i64 1000000)), (some (35, false)), [], false⟩,
            ⟨(some 40), .pick (.t 35) (.k (.bool true)) (.t 39), none, [], false⟩,
            ⟨(some 8), .mv (.t 40), none, [], false⟩])
          (.cond (.t 8) (.skip)
           (.seq (.reg [
              ⟨(some 41), .mv (.t 4), none, [], false⟩,
              ⟨(some 42), .fad 5 (.t 3), none, [], false⟩,
              ⟨(some 43), .fad 0 (.t 42), none, [], false⟩,
              ⟨(some 44), .ld1 (.t 43), none, [], false⟩,
              ⟨(some 45), .call (.t 41) [(.t 44)], none, [], false⟩,
              ⟨(some 46), .mv (.t 45), none, [], false⟩,
              ⟨(some 47), .mv (.t 4), (some (46, false)), [], false⟩,
              ⟨(some 48), .fad 5 (.t 3), (some (46, false)), [], false⟩,
              ⟨(some 49), .fad 1 (.t 48), (some (46, false)), [], false⟩,
              ⟨(some 50), .ld1 (.t 49), (some (46, false)), [], false⟩,
              ⟨(some 51), .call (.t 47) [(.t 50)], (some (46, false)), [], false⟩,
              ⟨(some 52), .pick (.t 46) (.k (.bool true)) (.t 51), none, [], false⟩,
              ⟨(some 8), .mv (.t 52), none, [], false⟩])
            (.cond (.t 8) (.skip)
             (.seq (.reg [
                ⟨(some 53), .fad 7 (.t 3), none, [], false⟩,
                ⟨(some 54), .ld1 (.t 53), none, [], false⟩,
                ⟨(some 55), .bin .lss (.t 54) (.k (.int .i64 0)), none, [], false⟩,
                ⟨(some 56), .mv (.t 55), none, [], false⟩,
                ⟨(some 57), .fad 7 (.t 3), (some (56, false)), [], false⟩,
                ⟨(some 58), .ld1 (.t 57), (some (56, false)), [], false⟩,
                ⟨(some 59), .bin .gtr (.t 58) (.k (.int .i64 60000)), (some (56, false)), [], false⟩,
                ⟨(some 60), .pick (.t 56) (.k (.bool true)) (.t 59), none, [], false⟩,
                ⟨(some 8), .mv (.t 60), none, [], false⟩])
              (.cond (.t 8) (.skip)
               (.seq (.reg [
                  ⟨(some 61), .fad 8 (.t 3), none, [], false⟩,
                  ⟨(some 62), .ld1 (.t 61), none, [], false⟩,
                  ⟨(some 63), .bin .lss (.t 62) (.k (.int .i64 (-3200))), none, [], false⟩,
                  ⟨(some 64), .mv (.t 63), none, [], false⟩,
                  ⟨(some 65), .fad 8 (.t 3), (some (64, false)), [], false⟩,
                  ⟨(some 66), .ld1 (.t 65), (some (64, false)), [], false⟩,
                  ⟨(some 67), .bin .gtr (.t 66) (.k (.int .i64 3200)), (some (64, false)), [], false⟩,
                  ⟨(some 68), .pick (.t 64) (.k (.bool true)) (.t 67), none, [], false⟩,
                  ⟨(some 8), .mv (.t 68), none, [], false⟩])
                (.cond (.t 8) (.skip)
                 (.seq (.reg [
                    ⟨(some 69), .fad 9 (.t 3), none, [], false⟩,
                    ⟨(some 70), .ld1 (.t 69), none, [], false⟩,
                    ⟨(some 71), .bin .lss (.t 70) (.k (.int .i64 0)), none, [], false⟩,
                    ⟨(some 72), .mv (.t 71), none, [], false⟩,
                    ⟨(some 73), .fad 9 (.t 3), (some (72, false)), [], false⟩,
                    ⟨(some 74), .ld1 (.t 73), (some (72, false)), [], false⟩,
                    ⟨(some 75), .bin .gtr (.t 74) (.k (.int .i64 4000000)), (some (72, false)), [], false⟩,
                    ⟨(some 76), .pick (.t 72) (.k (.bool true)) (.t 75), none, [], false⟩,
                    ⟨(some 8), .mv (.t 76), none, [], false⟩])
                  (.cond (.t 8) (.skip)
                   (.seq (.reg [
                      ⟨(some 77), .fad 10 (.t 3), none, [], false⟩,
                      ⟨(some 78), .ld1 (.t 77), none, [], false⟩,
                      ⟨(some 79), .bin .lss (.t 78) (.k (.int .i64 (-1))), none, [], false⟩,
                      ⟨(some 80), .mv (.t 79), none, [], false⟩,
                      ⟨(some 81), .fad 10 (.t 3), (some (80, false)), [], false⟩,
                      ⟨(some 82), .ld1 (.t 81), (some (80, false)), [], false⟩,
                      ⟨(some 83), .bin .gtr (.t 82) (.k (.int .i64 4095)), (some (80, false)), [], false⟩,
                      ⟨(some 84), .pick (.t 80) (.k (.bool true)) (.t 83), none, [], false⟩,
                      ⟨(some 8), .mv (.t 84), none, [], false⟩])
                    (.cond (.t 8) (.skip)
                     (.seq (.reg [
                        ⟨(some 85), .fad 13 (.t 1), none, [], false⟩,
                        ⟨(some 86), .ld1 (.t 85), none, [], false⟩,
                        ⟨(some 87), .bin .lss (.t 86) (.k (.int .i64 0)), none, [], false⟩,
                        ⟨(some 88), .mv (.t 87), none, [], false⟩,
                        ⟨(some 89), .fad 13 (.t 1), (some (88, false)), [], false⟩,
                        ⟨(some 90), .ld1 (.t 89), (some (88, false)), [], false⟩,
                        ⟨(some 91), .bin .gtr (.t 90) (.k (.int .i64 409600)), (some (88, false)), [], false⟩,
                        ⟨(some 92), .pick (.t 88) (.k (.bool true)) (.t 91), none, [], false⟩,
                        ⟨(some 8), .mv (.t 92), none, [], false⟩])
                      (.cond (.t 8) (.skip)
                       (.reg [
                         ⟨(some 93), .fad 0 (.t 3), none, [], false⟩,
                         ⟨(some 94), .ld1 (.t 93), none, [], false⟩,
                         ⟨(some 95), .bin .lss (.t 94) (.k (.int .i64 0)), none, [], false⟩,
                         ⟨(some 96), .mv (.t 95), none, [], false⟩,
                         ⟨(some 97), .fad 11 (.t 3), (some (96, false)), [], false⟩,
                         ⟨(some 98), .ld1 (.t 97), (some (96, false)), [], false⟩,
                         ⟨(some 99), .bin .lss (.t 98) (.k (.int .i64 0)), (some (96, false)), [], false⟩,
                         ⟨(some 100), .pick (.t 96) (.k (.bool true)) (.t 99), none, [], false⟩,
                         ⟨(some 101), .mv (.t 100), none, [], false⟩,
                         ⟨(some 102), .fad 12 (.t 3), (some (101, false)), [], false⟩,
                         ⟨(some 103), .ld1 (.t 102), (some (101, false)), [], false⟩,
                         ⟨(some 104), .bin .lss (.t 103) (.k (.int .i64 0)), (some (101, false)), [], false⟩,
                         ⟨(some 105), .pick (.t 101) (.k (.bool true)) (.t 104), none, [], false⟩,
                         ⟨(some 8), .mv (.t 105), none, [], false⟩])))))))))))))))
         (.cond (.t 8) (.seq (.reg [
             ⟨(some 2), .mv (.k (.int .i64 4)), none, [], false⟩])
           (.ret))
          (.seq (.reg [
             ⟨(some 107), .fad 1 (.t 3), none, [], false⟩,
             ⟨(some 108), .ld1 (.t 107), none, [], false⟩,
             ⟨(some 109), .bin .lss (.t 108) (.k (.int .i64 0)), none, [], false⟩,
             ⟨(some 110), .mv (.t 109), none, [], false⟩,
             ⟨(some 111), .fad 1 (.t 3), (some (110, false)), [], false⟩,
             ⟨(some 112), .ld1 (.t 111), (some (110, false)), [], false⟩,
             ⟨(some 113), .bin .gtr (.t 112) (.k (.int .i64 2)), (some (110, false)), [], false⟩,
             ⟨(some 114), .pick (.t 110) (.k (.bool true)) (.t 113), none, [], false⟩,
             ⟨(some 106), .mv (.t 114), none, [], false⟩])
           (.cond (.t 106) (.seq (.reg [
               ⟨(some 2), .mv (.k (.int .i64 1)), none, [], false⟩])
             (.ret))
            (.skip))))))
       (.seq (.seq (.reg [
           ⟨(some 115), .fad 14 (.t 1), none, [], false⟩,
           ⟨(some 116), .ldn 6 (.t 115), none, [], false⟩,
           ⟨(some 117), .call (.k (.fn 56 [])) [(.t 116)], none, [], false⟩,
           ⟨(some 5), .mv (.t 117), none, [], false⟩])
         (.seq (.reg [
            ⟨(some 118), .mv (.t 5), none, [], false⟩,
            ⟨(some 119), .bin .neq (.t 118) (.k (.int .i64 0)), none, [], false⟩])
          (.cond (.t 119) (.seq (.reg [
              ⟨(some 120), .mv (.t 5), none, [], false⟩,
              ⟨(some 2), .mv (.t 120), none, [], false⟩])
            (.ret))
           (.skip))))
        (.seq (.seq (.reg [
            ⟨(some 121), .fad 14 (.t 1), none, [], false⟩,
            ⟨(some 122), .fad 0 (.t 121), none, [], false⟩,
            ⟨(some 123), .ld1 (.t 122), none, [], false⟩,
            ⟨(some 124), .fad 2 (.t 3), none, [], false⟩,
            ⟨(some 125), .ld1 (.t 124), none, [], false⟩,
            ⟨(some 126), .bin .gtr (.t 123) (.t 125), none, [], false⟩])
          (.cond (.t 126) (.seq (.reg [
              ⟨(some 2), .mv (.k (.int .i64 12)), none, [], false⟩])
            (.ret))
           (.skip)))
         (.seq (.reg [
            ⟨(some 2), .mv (.k (.int .i64 0)), none, [], false⟩])
          (.ret)))))))
/-- skyway/coast.Miss -/
def c24 : CF where
  np := 2
  nt := 40
  res := [.cn 20 4, .t 5, .t 6]
  code := .seq (.reg [
      ⟨(some 2), .box (.t 0), none, [], false⟩,
      ⟨(some 4), .new [.int .i64 0, .int .i64 0, .int .i64 0, .int .i64 0, .int .i64 0, .int .i64 0, .int .i64 0, .int .i64 0, .int .i64 0, .int .i64 0, .int .i64 0, .int .i64 0, .int .i64 0, .int .i64 0, .int .i64 0, .int .i64 0, .int .i64 0, .int .i64 0, .int .i64 0, .int .i64 0], none, [], false⟩,
      ⟨(some 5), .mv (.k (.bool false)), none, [], false⟩,
      ⟨(some 6), .mv (.k (.int .i64 0)), none, [], false⟩])
    (.seq (.seq (.reg [
        ⟨(some 8), .ldn 20 (.t 2), none, [], false⟩,
        ⟨(some 9), .call (.k (.fn 51 [])) [(.t 8)], none, [], false⟩,
        ⟨(some 7), .mv (.t 9), none, [], false⟩])
      (.seq (.reg [
         ⟨(some 10), .mv (.t 7), none, [], false⟩,
         ⟨(some 11), .bin .neq (.t 10) (.k (.int .i64 0)), none, [], false⟩])
       (.cond (.t 11) (.seq (.reg [
           ⟨(some 12), .mk [.int .i64 0, .int .i64 0, .int .i64 0, .int .i64 0, .int .i64 0, .int .i64 0, .int .i64 0, .int .i64 0, .int .i64 0, .int .i64 0, .int .i64 0, .int .i64 0, .int .i64 0, .int .i64 0, .int .i64 0, .int .i64 0, .int .i64 0, .int .i64 0, .int .i64 0, .int .i64 0] [], none, [], false⟩,
           ⟨(some 13), .mv (.t 7), none, [], false⟩,
           ⟨none, .st 20 (.t 4) (.t 12), none, [], false⟩,
           ⟨(some 5), .mv (.k (.bool false)), none, [], false⟩,
           ⟨(some 6), .mv (.t 13), none, [], false⟩])
         (.ret))
        (.skip))))
     (.seq (.seq (.reg [
         ⟨(some 14), .mv (.t 1), none, [], false⟩,
         ⟨(some 15), .bin .lss (.t 14) (.k (.int .i64 0)), none, [], false⟩,
         ⟨(some 16), .mv (.t 15), none, [], false⟩,
         ⟨(some 17), .mv (.t 1), (some (16, false)), [], false⟩,
         ⟨(some 18), .bin .gtr (.t 17) (.k (.int .i64 100)), (some (16, false)), [], false⟩,
         ⟨(some 19), .pick (.t 16) (.k (.bool true)) (.t 18), none, [], false⟩])
       (.cond (.t 19) (.seq (.reg [
           ⟨(some 20), .mk [.int .i64 0, .int .i64 0, .int .i64 0, .int .i64 0, .int .i64 0, .int .i64 0, .int .i64 0, .int .i64 0, .int .i64 0, .int .i64 0, .int .i64 0, .int .i64 0, .int .i64 0, .int .i64 0, .int .i64 0, .int .i64 0, .int .i64 0, .int .i64 0, .int .i64 0, .int .i64 0] [], none, [], false⟩,
           ⟨none, .st 20 (.t 4) (.t 20), none, [], false⟩,
           ⟨(some 5), .mv (.k (.bool false)), none, [], false⟩,
           ⟨(some 6), .mv (.k (.int .i64 4)), none, [], false⟩])
         (.ret))
        (.skip)))
      (.seq (.reg [
         ⟨(some 21), .fad 0 (.t 2), none, [], false⟩,
         ⟨(some 22), .fad 12 (.t 21), none, [], false⟩,
         ⟨(some 23), .ld1 (.t 22), none, [], false⟩,
         ⟨(some 24), .mnx false (.t 23) [(.k (.int .i64 100))], none, [], false⟩,
         ⟨(some 25), .bin .add (.t 24) (.k (.int .i64 1)), none, [], false⟩,
         ⟨(some 26), .fad 0 (.t 2), none, [], false⟩,
         ⟨(some 27), .fad 12 (.t 26), none, [], false⟩,
         ⟨none, .st 1 (.t 27) (.t 25), none, [], false⟩])
       (.seq (.seq (.reg [
           ⟨(some 28), .fad 0 (.t 2), none, [], false⟩,
           ⟨(some 29), .fad 1 (.t 28), none, [], false⟩,
           ⟨(some 30), .ld1 (.t 29), none, [], false⟩,
           ⟨(some 31), .bin .eql (.t 30) (.k (.int .i64 1)), none, [], false⟩])
         (.cond (.t 31) (.reg [
            ⟨(some 32), .fad 0 (.t 2), none, [], false⟩,
            ⟨(some 33), .fad 1 (.t 32), none, [], false⟩,
            ⟨none, .st 1 (.t 33) (.k (.int .i64 2)), none, [], false⟩])
          (.skip)))
        (.seq (.reg [
           ⟨(some 34), .ldn 20 (.t 2), none, [], false⟩,
           ⟨(some 35), .fad 0 (.t 2), none, [], false⟩,
           ⟨(some 36), .fad 12 (.t 35), none, [], false⟩,
           ⟨(some 37), .ld1 (.t 36), none, [], false⟩,
           ⟨(some 38), .mv (.t 1), none, [], false⟩,
           ⟨(some 39), .bin .gtr (.t 37) (.t 38), none, [], false⟩,
           ⟨none, .st 20 (.t 4) (.t 34), none, [(.t 36)], false⟩,
           ⟨(some 5), .mv (.t 39), none, [], false⟩,
           ⟨(some 6), .mv (.k (.int .i64 0)), none, [], false⟩])
         (.ret))))))
/-- skyway/skywaykeep2.within -/
def c25 : CF where
  np := 3
  nt := 21
  res := [.t 6]
  code := .seq (.reg [
      ⟨(some 6), .mv (.k (.int .i64 0)), none, [], false⟩])
    (.seq (.reg [
       ⟨(some 8), .mv (.t 2), none, [], false⟩,
       ⟨(some 9), .mv (.t 1), none, [], false⟩,
       ⟨(some 10), .bin .sub (.t 8) (.t 9), none, [], false⟩,
       ⟨(some 11), .bin .add (.t 10) (.k (.int .i64 1)), none, [], false⟩,
       ⟨(some 7), .mv (.t 11), none, [], false⟩])
     (.seq (.reg [
        ⟨(some 12), .mv (.t 1), none, [], false⟩,
        ⟨(some 13), .mv (.t 0), none, [], false⟩,
        ⟨(some 14), .mv (.t 7), none, [], false⟩,
        ⟨(some 15), .bin .rem (.t 13) (.t 14), none, [], false⟩,
        ⟨(some 16), .mv (.t 7), none, [], false⟩,
        ⟨(some 17), .bin .add (.t 15) (.t 16), none, [], false⟩,
        ⟨(some 18), .mv (.t 7), none, [], false⟩,
        ⟨(some 19), .bin .rem (.t 17) (.t 18), none, [], false⟩,
        ⟨(some 20), .bin .add (.t 12) (.t 19), none, [], false⟩,
        ⟨(some 6), .mv (.t 20), none, [], false⟩])
      (.ret)))
/-- skyway/coast.Hit -/
def c26 : CF where
  np := 1
  nt := 20
  res := [.cn 20 2, .t 3]
  code := .seq (.reg [
      ⟨(some 1), .box (.t 0), none, [], false⟩,
      ⟨(some 2), .new [.int .i64 0, .int .i64 0, .int .i64 0, .int .i64 0, .int .i64 0, .int .i64 0, .int .i64 0, .int .i64 0, .int .i64 0, .int .i64 0, .int .i64 0, .int .i64 0, .int .i64 0, .int .i64 0, .int .i64 0, .int .i64 0, .int .i64 0, .int .i64 0, .int .i64 0, .int .i64 0], none, [], false⟩,
      ⟨(some 3), .mv (.k (.int .i64 0)), none, [], false⟩])
    (.seq (.seq (.reg [
        ⟨(some 5), .ldn 20 (.t 1), none, [], false⟩,
        ⟨(some 6), .call (.k (.fn 51 [])) [(.t 5)], none, [], false⟩,
        ⟨(some 4), .mv (.t 6), none, [], false⟩])
      (.seq (.reg [
         ⟨(some 7), .mv (.t 4), none, [], false⟩,
         ⟨(some 8), .bin .neq (.t 7) (.k (.int .i64 0)), none, [], false⟩])
       (.cond (.t 8) (.seq (.reg [
           ⟨(some 9), .mk [.int .i64 0, .int .i64 0, .int .i64 0, .int .i64 0, .int .i64 0, .int .i64 0, .int .i64 0, .int .i64 0, .int .i64 0, .int .i64 0, .int .i64 0, .int .i64 0, .int .i64 0, .int .i64 0, .int .i64 0, .int .i64 0, .int .i64 0, .int .i64 0, .int .i64 0, .int .i64 0] [], none, [], false⟩,
           ⟨(some 10), .mv (.t 4), none, [], false⟩,
           ⟨none, .st 20 (.t 2) (.t 9), none, [], false⟩,
           ⟨(some 3), .mv (.t 10), none, [], false⟩])
         (.ret))
        (.skip))))
     (.seq (.reg [
        ⟨(some 11), .fad 0 (.t 1), none, [], false⟩,
        ⟨(some 12), .fad 12 (.t 11), none, [], false⟩,
        ⟨none, .st 1 (.t 12) (.k (.int .i64 0)), none, [], false⟩])
      (.seq (.seq (.reg [
          ⟨(some 13), .fad 0 (.t 1), none, [], false⟩,
          ⟨(some 14), .fad 1 (.t 13), none, [], false⟩,
          ⟨(some 15), .ld1 (.t 14), none, [], false⟩,
          ⟨(some 16), .bin .eql (.t 15) (.k (.int .i64 2)), none, [], false⟩])
        (.cond (.t 16) (.reg [
           ⟨(some 17), .fad 0 (.t 1), none, [], false⟩,
           ⟨(some 18), .fad 1 (.t 17), none, [], false⟩,
           ⟨none, .st 1 (.t 18) (.k (.int .i64 1)), none, [], false⟩])
         (.skip)))
       (.seq (.reg [
          ⟨(some 19), .ldn 20 (.t 1), none, [], false⟩,
          ⟨none, .st 20 (.t 2) (.t 19), none, [], false⟩,
          ⟨(some 3), .mv (.k (.int .i64 0)), none, [], false⟩])
        (.ret)))))
/-- skyway/skywaykeep2.CoastTurns -/
def c8 : CF where
  np := 2
  nt := 82
  res := [.t 4]
  code := .seq (.reg [
      ⟨(some 2), .box (.t 0), none, [], false⟩,
      ⟨(some 4), .mv (.k (.bool false)), none, [], false⟩])
    (.seq (.reg [
       ⟨(some 18), .mk [.int .i64 0, .int .i64 0, .int .i64 0, .int .i64 0, .int .i64 0, .int .i64 0, .int .i64 0, .int .i64 0, .int .i64 0, .int .i64 0, .int .i64 0, .int .i64 0, .int .i64 0] [(1, 1, (.k (.int .i64 1)))], none, [], false⟩,
       ⟨(some 19), .mk [.int .i64 0, .int .i64 0, .int .i64 0, .int .i64 0, .int .i64 0, .int .i64 0, .int .i64 0, .int .i64 0, .int .i64 0, .int .i64 0, .int .i64 0, .int .i64 0, .int .i64 0, .int .i64 0, .int .i64 0, .int .i64 0, .int .i64 0, .int .i64 0, .int .i64 0, .int .i64 0] [(0, 13, (.t 18))], none, [], false⟩,
       ⟨(some 5), .new [.int .i64 0, .int .i64 0, .int .i64 0, .int .i64 0, .int .i64 0, .int .i64 0, .int .i64 0, .int .i64 0, .int .i64 0, .int .i64 0, .int .i64 0, .int .i64 0, .int .i64 0, .int .i64 0, .int .i64 0, .int .i64 0, .int .i64 0, .int .i64 0, .int .i64 0, .int .i64 0], none, [], false⟩,
       ⟨none, .st 20 (.t 5) (.t 19), none, [], false⟩])
     (.seq (.seq (.reg [
         ⟨(some 21), .ldn 20 (.t 5), none, [], false⟩,
         ⟨(some 22), .call (.k (.fn 24 [])) [(.t 21), (.k (.int .i64 5))], none, [], false⟩,
         ⟨(some 20), .mv (.t 22), none, [], false⟩,
         ⟨(some 23), .ext (.t 20) 0, none, [], false⟩,
         ⟨(some 24), .ext (.t 20) 1, none, [], false⟩,
         ⟨(some 25), .ext (.t 20) 2, none, [], false⟩,
         ⟨(some 6), .new [.int .i64 0, .int .i64 0, .int .i64 0, .int .i64 0, .int .i64 0, .int .i64 0, .int .i64 0, .int .i64 0, .int .i64 0, .int .i64 0, .int .i64 0, .int .i64 0, .int .i64 0, .int .i64 0, .int .i64 0, .int .i64 0, .int .i64 0, .int .i64 0, .int .i64 0, .int .i64 0], none, [], false⟩,
         ⟨none, .st 20 (.t 6) (.t 23), none, [], false⟩,
         ⟨(some 7), .mv (.t 24), none, [], false⟩,
         ⟨(some 8), .mv (.t 25), none, [], false⟩])
       (.seq (.reg [
          ⟨(some 26), .mv (.t 8), none, [], false⟩,
          ⟨(some 27), .bin .neq (.t 26) (.k (.int .i64 0)), none, [], false⟩,
          ⟨(some 28), .mv (.t 27), none, [], false⟩,
          ⟨(some 29), .mv (.t 7), (some (28, false)), [], false⟩,
          ⟨(some 30), .pick (.t 28) (.k (.bool true)) (.t 29), none, [], false⟩,
          ⟨(some 31), .mv (.t 30), none, [], false⟩,
          ⟨(some 32), .fad 0 (.t 6), (some (31, false)), [], false⟩,
          ⟨(some 33), .fad 1 (.t 32), (some (31, false)), [], false⟩,
          ⟨(some 34), .ld1 (.t 33), (some (31, false)), [], false⟩,
          ⟨(some 35), .bin .neq (.t 34) (.k (.int .i64 2)), (some (31, false)), [], false⟩,
          ⟨(some 36), .pick (.t 31) (.k (.bool true)) (.t 35), none, [], false⟩])
        (.cond (.t 36) (.seq (.reg [
            ⟨(some 4), .mv (.k (.bool false)), none, [], false⟩])
          (.ret))
         (.skip))))
      (.seq (.reg [
         ⟨(some 37), .mv (.t 1), none, [], false⟩,
         ⟨(some 38), .call (.k (.fn 25 [])) [(.t 37), (.k (.int .i64 0)), (.k (.int .i64 20))], none, [], false⟩,
         ⟨(some 1), .mv (.t 38), none, [], false⟩])
       (.seq (.reg [
          ⟨(some 40), .ldn 20 (.t 2), none, [], false⟩,
          ⟨(some 41), .call (.k (.fn 26 [])) [(.t 40)], none, [], false⟩,
          ⟨(some 39), .mv (.t 41), none, [], false⟩,
          ⟨(some 42), .ext (.t 39) 0, none, [], false⟩,
          ⟨(some 43), .ext (.t 39) 1, none, [], false⟩,
          ⟨(some 9), .new [.int .i64 0, .int .i64 0, .int .i64 0, .int .i64 0, .int .i64 0, .int .i64 0, .int .i64 0, .int .i64 0, .int .i64 0, .int .i64 0, .int .i64 0, .int .i64 0, .int .i64 0, .int .i64 0, .int .i64 0, .int .i64 0, .int .i64 0, .int .i64 0, .int .i64 0, .int .i64 0], none, [], false⟩,
          ⟨none, .st 20 (.t 9) (.t 42), none, [], false⟩,
          ⟨(some 10), .mv (.t 43), none, [], false⟩])
        (.seq (.seq (.reg [
            ⟨(some 44), .mv (.t 10), none, [], false⟩,
            ⟨(some 45), .bin .neq (.t 44) (.k (.int .i64 0)), none, [], false⟩])
          (.cond (.t 45) (.seq (.reg [
              ⟨(some 46), .ldn 20 (.t 9), none, [], false⟩,
              ⟨(some 47), .mk [.int .i64 0, .int .i64 0, .int .i64 0, .int .i64 0, .int .i64 0, .int .i64 0, .int .i64 0, .int .i64 0, .int .i64 0, .int .i64 0, .int .i64 0, .int .i64 0, .int .i64 0, .int .i64 0, .int .i64 0, .int .i64 0, .int .i64 0, .int .i64 0, .int .i64 0, .int .i64 0] [], none, [], false⟩,
              ⟨(some 48), .eqs false (some [.i, .i, .i, .i, .i, .i, .i, .i, .i, .i, .i, .i, .i, .i, .i, .i, .i, .i, .i, .i]) (.t 46) (.t 47), none, [], false⟩,
              ⟨(some 4), .mv (.t 48), none, [], false⟩])
            (.ret))
           (.skip)))
         (.seq (.reg [
            ⟨(some 49), .ldn 20 (.t 9), none, [], false⟩,
            ⟨(some 11), .new [.int .i64 0, .int .i64 0, .int .i64 0, .int .i64 0, .int .i64 0, .int .i64 0, .int .i64 0, .int .i64 0, .int .i64 0, .int .i64 0, .int .i64 0, .int .i64 0, .int .i64 0, .int .i64 0, .int .i64 0, .int .i64 0, .int .i64 0, .int .i64 0, .int .i64 0, .int .i64 0], none, [], false⟩,
            ⟨none, .st 20 (.t 11) (.t 49), none, [], false⟩,
            ⟨(some 12), .mv (.k (.bool false)), none, [], false⟩])
          (.seq (.seq (.reg [
              ⟨(some 13), .mv (.k (.int .i64 0)), none, [], false⟩])
            (.blk 0 (.loop (.seq (.seq (.reg [
                  ⟨(some 50), .mv (.t 13), none, [], false⟩,
                  ⟨(some 51), .mv (.t 1), none, [], false⟩,
                  ⟨(some 52), .bin .leq (.t 50) (.t 51), none, [], false⟩])
                (.cond (.t 52) (.skip)
                 (.exit 0)))
               (.seq (.blk 1 (.seq (.seq (.reg [
                     ⟨(some 55), .mv (.t 12), none, [], false⟩])
                   (.cond (.t 55) (.seq (.reg [
                       ⟨(some 4), .mv (.k (.bool false)), none, [], false⟩])
                     (.ret))
                    (.skip)))
                  (.seq (.reg [
                     ⟨(some 57), .ldn 20 (.t 11), none, [], false⟩,
                     ⟨(some 58), .mv (.t 1), none, [], false⟩,
                     ⟨(some 59), .call (.k (.fn 24 [])) [(.t 57), (.t 58)], none, [], false⟩,
                     ⟨(some 56), .mv (.t 59), none, [], false⟩,
                     ⟨(some 60), .ext (.t 56) 0, none, [], false⟩,
                     ⟨(some 61), .ext (.t 56) 1, none, [], false⟩,
                     ⟨(some 62), .ext (.t 56) 2, none, [], false⟩,
                     ⟨(some 14), .new [.int .i64 0, .int .i64 0, .int .i64 0, .int .i64 0, .int .i64 0, .int .i64 0, .int .i64 0, .int .i64 0, .int .i64 0, .int .i64 0, .int .i64 0, .int .i64 0, .int .i64 0, .int .i64 0, .int .i64 0, .int .i64 0, .int .i64 0, .int .i64 0, .int .i64 0, .int .i64 0], none, [], false⟩,
                     ⟨none, .st 20 (.t 14) (.t 60), none, [], false⟩,
                     ⟨(some 15), .mv (.t 61), none, [], false⟩,
                     ⟨(some 16), .mv (.t 62), none, [], false⟩])
                   (.seq (.seq (.reg [
                       ⟨(some 63), .mv (.t 16), none, [], false⟩,
                       ⟨(some 64), .bin .neq (.t 63) (.k (.int .i64 0)), none, [], false⟩])
                     (.cond (.t 64) (.seq (.reg [
                         ⟨(some 4), .mv (.k (.bool false)), none, [], false⟩])
                       (.ret))
                      (.skip)))
                    (.reg [
                      ⟨(some 65), .ldn 20 (.t 14), none, [], false⟩,
                      ⟨(some 66), .mv (.t 15), none, [], false⟩,
                      ⟨none, .st 20 (.t 11) (.t 65), none, [], false⟩,
                      ⟨(some 12), .mv (.t 66), none, [], false⟩])))))
                (.reg [
                  ⟨(some 53), .mv (.t 13), none, [], false⟩,
                  ⟨(some 54), .bin .add (.t 53) (.k (.int .i64 1)), none, [], false⟩,
                  ⟨(some 13), .mv (.t 54), none, [], false⟩]))))))
           (.seq (.reg [
              ⟨(some 68), .ldn 20 (.t 11), none, [], false⟩,
              ⟨(some 69), .call (.k (.fn 26 [])) [(.t 68)], none, [], false⟩,
              ⟨(some 67), .mv (.t 69), none, [], false⟩,
              ⟨(some 70), .ext (.t 67) 0, none, [], false⟩,
              ⟨(some 71), .ext (.t 67) 1, none, [], false⟩,
              ⟨(some 17), .new [.int .i64 0, .int .i64 0, .int .i64 0, .int .i64 0, .int .i64 0, .int .i64 0, .int .i64 0, .int .i64 0, .int .i64 0, .int .i64 0, .int .i64 0, .int .i64 0, .int .i64 0, .int .i64 0, .int .i64 0, .int .i64 0, .int .i64 0, .int .i64 0, .int .i64 0, .int .i64 0], none, [], false⟩,
              ⟨none, .st 20 (.t 17) (.t 70), none, [], false⟩,
              ⟨(some 10), .mv (.t 71), none, [], false⟩])
            (.seq (.reg [
               ⟨(some 72), .mv (.t 12), none, [], false⟩,
               ⟨(some 73), .mv (.t 72), none, [], false⟩,
               ⟨(some 74), .mv (.t 10), (some (73, true)), [], false⟩,
               ⟨(some 75), .bin .eql (.t 74) (.k (.int .i64 0)), (some (73, true)), [], false⟩,
               ⟨(some 76), .pick (.t 73) (.t 75) (.k (.bool false)), none, [], false⟩,
               ⟨(some 77), .mv (.t 76), none, [], false⟩,
               ⟨(some 78), .ldn 20 (.t 17), (some (77, true)), [], false⟩,
               ⟨(some 79), .ldn 20 (.t 9), (some (77, true)), [], false⟩,
               ⟨(some 80), .eqs false (some [.i, .i, .i, .i, .i, .i, .i, .i, .i, .i, .i, .i, .i, .i, .i, .i, .i, .i, .i, .i]) (.t 78) (.t 79), (some (77, true)), [], false⟩,
               ⟨(some 81), .pick (.t 77) (.t 80) (.k (.bool false)), none, [], false⟩,
               ⟨(some 4), .mv (.t 81), none, [], false⟩])
             (.ret))))))))))
def E : Nat → Option CF
  | 81 => some c81
  | 80 => some c80
  | 56 => some c56
  | 51 => some c51
  | 24 => some c24
  | 25 => some c25
  | 26 => some c26
  | 8 => some c8
  | _ => none
theorem ok81 : cFunc Try.prog Try.f81 = some c81 := by kernel_rfl
theorem ok80 : cFunc Try.prog Try.f80 = some c80 := by kernel_rfl
theorem ok56 : cFunc Try.prog Try.f56 = some c56 := by kernel_rfl
theorem ok51 : cFunc Try.prog Try.f51 = some c51 := by kernel_rfl
theorem ok24 : cFunc Try.prog Try.f24 = some c24 := by kernel_rfl
theorem ok25 : cFunc Try.prog Try.f25 = some c25 := by kernel_rfl
theorem ok26 : cFunc Try.prog Try.f26 = some c26 := by kernel_rfl
theorem ok8 : cFunc Try.prog Try.f8 = some c8 := by kernel_rfl
theorem e81 : E 81 = some c81 := rfl
theorem e80 : E 80 = some c80 := rfl
theorem e56 : E 56 = some c56 := rfl
theorem e51 : E 51 = some c51 := rfl
theorem e24 : E 24 = some c24 := rfl
theorem e25 : E 25 = some c25 := rfl
theorem e26 : E 26 = some c26 := rfl
theorem e8 : E 8 = some c8 := rfl
theorem env : EnvOK Try.prog E := by
  intro f cf h
  unfold E at h
  split at h
  · simp only [Option.some.injEq] at h; subst h; exact ⟨Try.f81, Try.func81, ok81⟩
  · simp only [Option.some.injEq] at h; subst h; exact ⟨Try.f80, Try.func80, ok80⟩
  · simp only [Option.some.injEq] at h; subst h; exact ⟨Try.f56, Try.func56, ok56⟩
  · simp only [Option.some.injEq] at h; subst h; exact ⟨Try.f51, Try.func51, ok51⟩
  · simp only [Option.some.injEq] at h; subst h; exact ⟨Try.f24, Try.func24, ok24⟩
  · simp only [Option.some.injEq] at h; subst h; exact ⟨Try.f25, Try.func25, ok25⟩
  · simp only [Option.some.injEq] at h; subst h; exact ⟨Try.f26, Try.func26, ok26⟩
  · simp only [Option.some.injEq] at h; subst h; exact ⟨Try.f8, Try.func8, ok8⟩
  · cases h
end Go.Proofs.Ytpcmmbbkidojoaa.CodeCoastTurns
