/- The code of functions of the program, for the abstract machine; each is what the function is turned into. No condition. -/
import Derived.Test.YtpehhlfbnkakpaaEvaO
import Derived.Test.YtpehhlfbnkakpaaChecked
import Derived.KernelRfl
namespace Go.Proofs.Ytpehhlfbnkakpaa.CodeAll
open Go Go.Proofs.Ytpehhlfbnkakpaa.Eva
/-- skyway/assign.Check -/
def c87 : CF where
  np := 2
  nt := 48
  res := [.t 4]
  code := .seq (.reg [
      ⟨(some 4), .mv (.k (.int .i64 0)), none, [], false⟩])
    (.seq (.seq (.reg [
        ⟨(some 9), .mv (.t 0), none, [], false⟩,
        ⟨(some 10), .lenv false (.t 9), none, [], false⟩,
        ⟨(some 11), .bin .gtr (.t 10) (.k (.int .i64 32)), none, [], false⟩])
      (.cond (.t 11) (.seq (.reg [
          ⟨(some 4), .mv (.k (.int .i64 2)), none, [], false⟩])
        (.ret))
       (.skip)))
     (.seq (.seq (.reg [
         ⟨(some 12), .mv (.t 0), none, [], false⟩,
         ⟨(some 13), .lenv false (.t 12), none, [], false⟩,
         ⟨(some 14), .mv (.k (.int .i64 0)), none, [], false⟩])
       (.blk 0 (.loop (.seq (.reg [
            ⟨(some 15), .bin .lss (.t 14) (.t 13), none, [], false⟩])
          (.seq (.cond (.t 15) (.skip)
            (.exit 0))
           (.seq (.blk 1 (.seq (.reg [
                ⟨(some 16), .iad 1 (.t 12) (.t 14), none, [], false⟩,
                ⟨(some 17), .ld1 (.t 16), none, [], false⟩,
                ⟨(some 6), .mv (.t 17), none, [], false⟩])
              (.seq (.seq (.reg [
                  ⟨(some 18), .mv (.t 6), none, [], false⟩,
                  ⟨(some 19), .lenv false (.t 18), none, [], false⟩,
                  ⟨(some 20), .bin .gtr (.t 19) (.k (.int .i64 32)), none, [], false⟩])
                (.cond (.t 20) (.seq (.reg [
                    ⟨(some 4), .mv (.k (.int .i64 2)), none, [], false⟩])
                  (.ret))
                 (.skip)))
               (.seq (.seq (.reg [
                   ⟨(some 21), .mv (.t 6), none, [], false⟩,
                   ⟨(some 22), .lenv false (.t 21), none, [], false⟩,
                   ⟨(some 23), .mv (.t 0), none, [], false⟩,
                   ⟨(some 24), .iad 1 (.t 23) (.k (.int .i64 0)), none, [], false⟩,
                   ⟨(some 25), .ld1 (.t 24), none, [], false⟩,
                   ⟨(some 26), .lenv false (.t 25), none, [], false⟩,
                   ⟨(some 27), .bin .neq (.t 22) (.t 26), none, [], false⟩])
                 (.cond (.t 27) (.seq (.reg [
                     ⟨(some 4), .mv (.k (.int .i64 3)), none, [], false⟩])
                   (.ret))
                  (.skip)))
                (.seq (.reg [
                   ⟨(some 28), .mv (.t 6), none, [], false⟩,
                   ⟨(some 29), .lenv false (.t 28), none, [], false⟩,
                   ⟨(some 30), .mv (.k (.int .i64 0)), none, [], false⟩])
                 (.blk 2 (.loop (.seq (.reg [
                      ⟨(some 31), .bin .lss (.t 30) (.t 29), none, [], false⟩])
                    (.seq (.cond (.t 31) (.skip)
                      (.exit 2))
                     (.seq (.blk 3 (.seq (.reg [
                          ⟨(some 32), .iad 1 (.t 28) (.t 30), none, [], false⟩,
                          ⟨(some 33), .ld1 (.t 32), none, [], false⟩,
                          ⟨(some 8), .mv (.t 33), none, [], false⟩])
                        (.seq (.reg [
                           ⟨(some 34), .mv (.t 8), none, [], false⟩,
                           ⟨(some 35), .bin .lss (.t 34) (.k (.int .i64 (-1))), none, [], false⟩,
                           ⟨(some 36), .mv (.t 35), none, [], false⟩,
                           ⟨(some 37), .mv (.t 8), (some (36, false)), [], false⟩,
                           ⟨(some 38), .bin .gtr (.t 37) (.k (.int .i64 1099511627776)), (some (36, false)), [], false⟩,
                           ⟨(some 39), .pick (.t 36) (.k (.bool true)) (.t 38), none, [], false⟩])
                         (.cond (.t 39) (.seq (.reg [
                             ⟨(some 4), .mv (.k (.int .i64 4)), none, [], false⟩])
                           (.ret))
                          (.skip)))))
                      (.reg [
                        ⟨(some 40), .bin .add (.t 30) (.k (.int .i64 1)), none, [], false⟩,
                        ⟨(some 30), .mv (.t 40), none, [], false⟩])))))))))))
            (.reg [
              ⟨(some 41), .bin .add (.t 14) (.k (.int .i64 1)), none, [], false⟩,
              ⟨(some 14), .mv (.t 41), none, [], false⟩])))))))
      (.seq (.seq (.reg [
          ⟨(some 42), .mv (.t 1), none, [], false⟩,
          ⟨(some 43), .bin .lss (.t 42) (.k (.int .i64 0)), none, [], false⟩,
          ⟨(some 44), .mv (.t 43), none, [], false⟩,
          ⟨(some 45), .mv (.t 1), (some (44, false)), [], false⟩,
          ⟨(some 46), .bin .gtr (.t 45) (.k (.int .i64 1099511627776)), (some (44, false)), [], false⟩,
          ⟨(some 47), .pick (.t 44) (.k (.bool true)) (.t 46), none, [], false⟩])
        (.cond (.t 47) (.seq (.reg [
            ⟨(some 4), .mv (.k (.int .i64 4)), none, [], false⟩])
          (.ret))
         (.skip)))
       (.seq (.reg [
          ⟨(some 4), .mv (.k (.int .i64 0)), none, [], false⟩])
        (.ret)))))
/-- slices.Clone[[]int,int] -/
def c49 : CF where
  np := 1
  nt := 8
  res := [.t 2]
  code := .seq (.reg [
      ⟨(some 2), .mv (.k (.sl true 0 0 0 0 0)), none, [], false⟩])
    (.seq (.seq (.reg [
        ⟨(some 3), .mv (.t 0), none, [], false⟩,
        ⟨(some 4), .eqn false 0 (.t 3), none, [], false⟩])
      (.cond (.t 4) (.seq (.reg [
          ⟨(some 2), .mv (.k (.sl true 0 0 0 0 0)), none, [], false⟩])
        (.ret))
       (.skip)))
     (.seq (.reg [
        ⟨(some 5), .mks [] 1 0 [], none, [], false⟩,
        ⟨(some 6), .mv (.t 0), none, [], false⟩,
        ⟨(some 7), .app 1 8 (.t 5) (.t 6), none, [], false⟩,
        ⟨(some 2), .mv (.t 7), none, [], false⟩])
      (.ret)))
/-- skyway/assign.square -/
def c89 : CF where
  np := 2
  nt := 55
  res := [.t 4]
  code := .seq (.reg [
      ⟨(some 4), .mv (.k (.sl true 0 0 0 0 0)), none, [], false⟩])
    (.seq (.reg [
       ⟨(some 5), .mv (.k (.sl true 0 0 0 0 0)), none, [], false⟩])
     (.seq (.seq (.reg [
         ⟨(some 13), .mv (.t 0), none, [], false⟩,
         ⟨(some 14), .lenv false (.t 13), none, [], false⟩,
         ⟨(some 15), .mv (.k (.int .i64 0)), none, [], false⟩])
       (.blk 0 (.loop (.seq (.reg [
            ⟨(some 16), .bin .lss (.t 15) (.t 14), none, [], false⟩])
          (.seq (.cond (.t 16) (.skip)
            (.exit 0))
           (.seq (.blk 1 (.seq (.reg [
                ⟨(some 17), .mv (.t 15), none, [], false⟩,
                ⟨(some 18), .iad 1 (.t 13) (.t 15), none, [], false⟩,
                ⟨(some 19), .ld1 (.t 18), none, [], false⟩,
                ⟨(some 6), .mv (.t 17), none, [], false⟩,
                ⟨(some 7), .mv (.t 19), none, [], false⟩])
              (.seq (.reg [
                 ⟨(some 20), .mv (.t 7), none, [], false⟩,
                 ⟨(some 21), .call (.k (.fn 49 [])) [(.t 20)], none, [], false⟩,
                 ⟨(some 8), .mv (.t 21), none, [], false⟩])
               (.seq (.seq (.reg [
                   ⟨(some 22), .mv (.t 8), none, [], false⟩,
                   ⟨(some 23), .lenv false (.t 22), none, [], false⟩,
                   ⟨(some 24), .mv (.k (.int .i64 0)), none, [], false⟩])
                 (.blk 2 (.loop (.seq (.reg [
                      ⟨(some 25), .bin .lss (.t 24) (.t 23), none, [], false⟩])
                    (.seq (.cond (.t 25) (.skip)
                      (.exit 2))
                     (.seq (.blk 3 (.seq (.reg [
                          ⟨(some 26), .mv (.t 24), none, [], false⟩,
                          ⟨(some 27), .iad 1 (.t 22) (.t 24), none, [], false⟩,
                          ⟨(some 28), .ld1 (.t 27), none, [], false⟩,
                          ⟨(some 9), .mv (.t 26), none, [], false⟩,
                          ⟨(some 10), .mv (.t 28), none, [], false⟩])
                        (.seq (.reg [
                           ⟨(some 29), .mv (.t 10), none, [], false⟩,
                           ⟨(some 30), .bin .lss (.t 29) (.k (.int .i64 0)), none, [], false⟩])
                         (.cond (.t 30) (.reg [
                            ⟨(some 31), .mv (.t 8), none, [], false⟩,
                            ⟨(some 32), .mv (.t 9), none, [], false⟩,
                            ⟨(some 33), .iad 1 (.t 31) (.t 32), none, [], false⟩,
                            ⟨none, .st 1 (.t 33) (.k (.int .i64 1125899906842624)), none, [], false⟩])
                          (.skip)))))
                      (.reg [
                        ⟨(some 34), .bin .add (.t 24) (.k (.int .i64 1)), none, [], false⟩,
                        ⟨(some 24), .mv (.t 34), none, [], false⟩])))))))
                (.seq (.seq (.reg [
                    ⟨(some 35), .mv (.t 0), none, [], false⟩,
                    ⟨(some 36), .lenv false (.t 35), none, [], false⟩,
                    ⟨(some 37), .mv (.k (.int .i64 0)), none, [], false⟩])
                  (.blk 4 (.loop (.seq (.reg [
                       ⟨(some 38), .bin .lss (.t 37) (.t 36), none, [], false⟩])
                     (.seq (.cond (.t 38) (.skip)
                       (.exit 4))
                      (.seq (.blk 5 (.seq (.reg [
                           ⟨(some 39), .mv (.t 37), none, [], false⟩,
                           ⟨(some 11), .mv (.t 39), none, [], false⟩])
                         (.seq (.reg [
                            ⟨(some 12), .mv (.k (.int .i64 1125899906842624)), none, [], false⟩])
                          (.seq (.seq (.reg [
                              ⟨(some 40), .mv (.t 11), none, [], false⟩,
                              ⟨(some 41), .mv (.t 6), none, [], false⟩,
                              ⟨(some 42), .bin .eql (.t 40) (.t 41), none, [], false⟩])
                            (.cond (.t 42) (.reg [
                               ⟨(some 43), .mv (.t 1), none, [], false⟩,
                               ⟨(some 12), .mv (.t 43), none, [], false⟩])
                             (.skip)))
                           (.reg [
                             ⟨(some 44), .mv (.t 8), none, [], false⟩,
                             ⟨(some 45), .mv (.t 12), none, [], false⟩,
                             ⟨(some 46), .mks [.int .i64 0] 1 1 [(0, 1, (.t 45))], none, [], false⟩,
                             ⟨(some 47), .app 1 8 (.t 44) (.t 46), none, [], false⟩,
                             ⟨(some 8), .mv (.t 47), none, [], false⟩])))))
                       (.reg [
                         ⟨(some 48), .bin .add (.t 37) (.k (.int .i64 1)), none, [], false⟩,
                         ⟨(some 37), .mv (.t 48), none, [], false⟩])))))))
                 (.reg [
                   ⟨(some 49), .mv (.t 5), none, [], false⟩,
                   ⟨(some 50), .mv (.t 8), none, [], false⟩,
                   ⟨(some 51), .mks [.sl true 0 0 0 0 0] 1 1 [(0, 1, (.t 50))], none, [], false⟩,
                   ⟨(some 52), .app 1 24 (.t 49) (.t 51), none, [], false⟩,
                   ⟨(some 5), .mv (.t 52), none, [], false⟩]))))))
            (.reg [
              ⟨(some 53), .bin .add (.t 15) (.k (.int .i64 1)), none, [], false⟩,
              ⟨(some 15), .mv (.t 53), none, [], false⟩])))))))
      (.seq (.reg [
         ⟨(some 54), .mv (.t 5), none, [], false⟩,
         ⟨(some 4), .mv (.t 54), none, [], false⟩])
       (.ret))))
/-- (*skyway/assign.solver).add -/
def c116 : CF where
  np := 2
  nt := 187
  res := []
  code := .seq (.reg [
      ⟨(some 16), .mv (.t 0), none, [], false⟩,
      ⟨(some 17), .nchk (.t 16), none, [], false⟩,
      ⟨(some 18), .fad 2 (.t 17), none, [], false⟩,
      ⟨(some 19), .ld1 (.t 18), none, [], false⟩,
      ⟨(some 20), .lenv false (.t 19), none, [], false⟩,
      ⟨(some 4), .mv (.t 20), none, [], false⟩])
    (.seq (.reg [
       ⟨(some 21), .mv (.t 4), none, [], false⟩,
       ⟨(some 22), .mksl [.int .i64 0] 8 (.t 21) (.t 21), none, [], false⟩,
       ⟨(some 23), .mv (.t 4), none, [], false⟩,
       ⟨(some 24), .mksl [.int .i64 0] 8 (.t 23) (.t 23), none, [], false⟩,
       ⟨(some 25), .mv (.t 4), none, [], false⟩,
       ⟨(some 26), .mksl [.bool false] 1 (.t 25) (.t 25), none, [], false⟩,
       ⟨(some 5), .mv (.t 22), none, [], false⟩,
       ⟨(some 6), .mv (.t 24), none, [], false⟩,
       ⟨(some 7), .mv (.t 26), none, [], false⟩])
     (.seq (.seq (.reg [
         ⟨(some 27), .mv (.t 5), none, [], false⟩,
         ⟨(some 28), .lenv false (.t 27), none, [], false⟩,
         ⟨(some 29), .mv (.k (.int .i64 0)), none, [], false⟩])
       (.blk 0 (.loop (.seq (.reg [
            ⟨(some 30), .bin .lss (.t 29) (.t 28), none, [], false⟩])
          (.seq (.cond (.t 30) (.skip)
            (.exit 0))
           (.seq (.blk 1 (.seq (.reg [
                ⟨(some 31), .mv (.t 29), none, [], false⟩,
                ⟨(some 8), .mv (.t 31), none, [], false⟩])
              (.reg [
                ⟨(some 32), .mv (.t 5), none, [], false⟩,
                ⟨(some 33), .mv (.t 8), none, [], false⟩,
                ⟨(some 34), .iad 1 (.t 32) (.t 33), none, [], false⟩,
                ⟨none, .st 1 (.t 34) (.k (.int .i64 4503599627370496)), none, [], false⟩])))
            (.reg [
              ⟨(some 35), .bin .add (.t 29) (.k (.int .i64 1)), none, [], false⟩,
              ⟨(some 29), .mv (.t 35), none, [], false⟩])))))))
      (.seq (.reg [
         ⟨(some 36), .mv (.t 0), none, [], false⟩,
         ⟨(some 37), .nchk (.t 36), none, [], false⟩,
         ⟨(some 38), .fad 3 (.t 37), none, [], false⟩,
         ⟨(some 39), .ld1 (.t 38), none, [], false⟩,
         ⟨(some 40), .mv (.t 1), none, [], false⟩,
         ⟨(some 41), .iad 1 (.t 39) (.k (.int .i64 0)), none, [], false⟩,
         ⟨none, .st 1 (.t 41) (.t 40), none, [], false⟩])
       (.seq (.reg [
          ⟨(some 9), .mv (.k (.int .i64 0)), none, [], false⟩])
        (.seq (.blk 2 (.loop (.blk 3 (.seq (.reg [
               ⟨(some 42), .mv (.t 7), none, [], false⟩,
               ⟨(some 43), .mv (.t 9), none, [], false⟩,
               ⟨(some 44), .iad 1 (.t 42) (.t 43), none, [], false⟩,
               ⟨none, .st 1 (.t 44) (.k (.bool true)), none, [], false⟩])
             (.seq (.reg [
                ⟨(some 45), .mv (.t 0), none, [], false⟩,
                ⟨(some 46), .nchk (.t 45), none, [], false⟩,
                ⟨(some 47), .fad 3 (.t 46), none, [], false⟩,
                ⟨(some 48), .ld1 (.t 47), none, [], false⟩,
                ⟨(some 49), .mv (.t 9), none, [], false⟩,
                ⟨(some 50), .iad 1 (.t 48) (.t 49), none, [], false⟩,
                ⟨(some 51), .ld1 (.t 50), none, [], false⟩,
                ⟨(some 10), .mv (.t 51), none, [], false⟩,
                ⟨(some 11), .mv (.k (.int .i64 4503599627370496)), none, [], false⟩,
                ⟨(some 12), .mv (.k (.int .i64 0)), none, [], false⟩])
              (.seq (.seq (.reg [
                  ⟨(some 13), .mv (.k (.int .i64 1)), none, [], false⟩])
                (.blk 4 (.loop (.seq (.seq (.reg [
                      ⟨(some 52), .mv (.t 13), none, [], false⟩,
                      ⟨(some 53), .mv (.t 4), none, [], false⟩,
                      ⟨(some 54), .bin .lss (.t 52) (.t 53), none, [], false⟩])
                    (.cond (.t 54) (.skip)
                     (.exit 4)))
                   (.seq (.blk 5 (.seq (.seq (.reg [
                         ⟨(some 57), .mv (.t 7), none, [], false⟩,
                         ⟨(some 58), .mv (.t 13), none, [], false⟩,
                         ⟨(some 59), .iad 1 (.t 57) (.t 58), none, [], false⟩,
                         ⟨(some 60), .ld1 (.t 59), none, [], false⟩])
                       (.cond (.t 60) (.exit 5)
                        (.skip)))
                      (.seq (.seq (.reg [
                          ⟨(some 61), .mv (.t 0), none, [], false⟩,
                          ⟨(some 62), .nchk (.t 61), none, [], false⟩,
                          ⟨(some 63), .fad 0 (.t 62), none, [], false⟩,
                          ⟨(some 64), .ld1 (.t 63), none, [], false⟩,
                          ⟨(some 65), .mv (.t 10), none, [], false⟩,
                          ⟨(some 66), .bin .sub (.t 65) (.k (.int .i64 1)), none, [], false⟩,
                          ⟨(some 67), .iad 1 (.t 64) (.t 66), none, [], false⟩,
                          ⟨(some 68), .ld1 (.t 67), none, [], false⟩,
                          ⟨(some 69), .mv (.t 13), none, [], false⟩,
                          ⟨(some 70), .bin .sub (.t 69) (.k (.int .i64 1)), none, [], false⟩,
                          ⟨(some 71), .iad 1 (.t 68) (.t 70), none, [], false⟩,
                          ⟨(some 72), .ld1 (.t 71), none, [], false⟩,
                          ⟨(some 73), .mv (.t 0), none, [], false⟩,
                          ⟨(some 74), .nchk (.t 73), none, [], false⟩,
                          ⟨(some 75), .fad 1 (.t 74), none, [], false⟩,
                          ⟨(some 76), .ld1 (.t 75), none, [], false⟩,
                          ⟨(some 77), .mv (.t 10), none, [], false⟩,
                          ⟨(some 78), .iad 1 (.t 76) (.t 77), none, [], false⟩,
                          ⟨(some 79), .ld1 (.t 78), none, [], false⟩,
                          ⟨(some 80), .bin .sub (.t 72) (.t 79), none, [], false⟩,
                          ⟨(some 81), .mv (.t 0), none, [], false⟩,
                          ⟨(some 82), .nchk (.t 81), none, [], false⟩,
                          ⟨(some 83), .fad 2 (.t 82), none, [], false⟩,
                          ⟨(some 84), .ld1 (.t 83), none, [], false⟩,
                          ⟨(some 85), .mv (.t 13), none, [], false⟩,
                          ⟨(some 86), .iad 1 (.t 84) (.t 85), none, [], false⟩,
                          ⟨(some 87), .ld1 (.t 86), none, [], false⟩,
                          ⟨(some 88), .bin .sub (.t 80) (.t 87), none, [], false⟩,
                          ⟨(some 14), .mv (.t 88), none, [], false⟩])
                        (.seq (.reg [
                           ⟨(some 89), .mv (.t 14), none, [], false⟩,
                           ⟨(some 90), .mv (.t 5), none, [], false⟩,
                           ⟨(some 91), .mv (.t 13), none, [], false⟩,
                           ⟨(some 92), .iad 1 (.t 90) (.t 91), none, [], false⟩,
                           ⟨(some 93), .ld1 (.t 92), none, [], false⟩,
                           ⟨(some 94), .bin .lss (.t 89) (.t 93), none, [], false⟩])
                         (.cond (.t 94) (.reg [
                            ⟨(some 95), .mv (.t 5), none, [], false⟩,
                            ⟨(some 96), .mv (.t 13), none, [], false⟩,
                            ⟨(some 97), .mv (.t 6), none, [], false⟩,
                            ⟨(some 98), .mv (.t 13), none, [], false⟩,
                            ⟨(some 99), .mv (.t 14), none, [], false⟩,
                            ⟨(some 100), .mv (.t 9), none, [], false⟩,
                            ⟨(some 101), .iad 1 (.t 95) (.t 96), none, [], false⟩,
                            ⟨none, .st 1 (.t 101) (.t 99), none, [], false⟩,
                            ⟨(some 102), .iad 1 (.t 97) (.t 98), none, [], false⟩,
                            ⟨none, .st 1 (.t 102) (.t 100), none, [], false⟩])
                          (.skip))))
                       (.seq (.reg [
                          ⟨(some 103), .mv (.t 5), none, [], false⟩,
                          ⟨(some 104), .mv (.t 13), none, [], false⟩,
                          ⟨(some 105), .iad 1 (.t 103) (.t 104), none, [], false⟩,
                          ⟨(some 106), .ld1 (.t 105), none, [], false⟩,
                          ⟨(some 107), .mv (.t 11), none, [], false⟩,
                          ⟨(some 108), .bin .lss (.t 106) (.t 107), none, [], false⟩])
                        (.cond (.t 108) (.reg [
                           ⟨(some 109), .mv (.t 5), none, [], false⟩,
                           ⟨(some 110), .mv (.t 13), none, [], false⟩,
                           ⟨(some 111), .iad 1 (.t 109) (.t 110), none, [], false⟩,
                           ⟨(some 112), .ld1 (.t 111), none, [], false⟩,
                           ⟨(some 113), .mv (.t 13), none, [], false⟩,
                           ⟨(some 11), .mv (.t 112), none, [], false⟩,
                           ⟨(some 12), .mv (.t 113), none, [], false⟩])
                         (.skip))))))
                    (.reg [
                      ⟨(some 55), .mv (.t 13), none, [], false⟩,
                      ⟨(some 56), .bin .add (.t 55) (.k (.int .i64 1)), none, [], false⟩,
                      ⟨(some 13), .mv (.t 56), none, [], false⟩]))))))
               (.seq (.seq (.reg [
                   ⟨(some 114), .mv (.t 4), none, [], false⟩,
                   ⟨(some 115), .mv (.k (.int .i64 0)), none, [], false⟩])
                 (.blk 6 (.loop (.seq (.reg [
                      ⟨(some 116), .bin .lss (.t 115) (.t 114), none, [], false⟩])
                    (.seq (.cond (.t 116) (.skip)
                      (.exit 6))
                     (.seq (.blk 7 (.seq (.reg [
                          ⟨(some 117), .mv (.t 115), none, [], false⟩,
                          ⟨(some 15), .mv (.t 117), none, [], false⟩])
                        (.seq (.reg [
                           ⟨(some 118), .mv (.t 7), none, [], false⟩,
                           ⟨(some 119), .mv (.t 15), none, [], false⟩,
                           ⟨(some 120), .iad 1 (.t 118) (.t 119), none, [], false⟩,
                           ⟨(some 121), .ld1 (.t 120), none, [], false⟩])
                         (.cond (.t 121) (.seq (.reg [
                             ⟨(some 122), .mv (.t 0), none, [], false⟩,
                             ⟨(some 123), .nchk (.t 122), none, [], false⟩,
                             ⟨(some 124), .fad 1 (.t 123), none, [], false⟩,
                             ⟨(some 125), .ld1 (.t 124), none, [], false⟩,
                             ⟨(some 126), .mv (.t 0), none, [], false⟩,
                             ⟨(some 127), .nchk (.t 126), none, [], false⟩,
                             ⟨(some 128), .fad 3 (.t 127), none, [], false⟩,
                             ⟨(some 129), .ld1 (.t 128), none, [], false⟩,
                             ⟨(some 130), .mv (.t 15), none, [], false⟩,
                             ⟨(some 131), .iad 1 (.t 129) (.t 130), none, [], false⟩,
                             ⟨(some 132), .ld1 (.t 131), none, [], false⟩,
                             ⟨(some 133), .iad 1 (.t 125) (.t 132), none, [], false⟩,
                             ⟨(some 134), .ld1 (.t 133), none, [], false⟩,
                             ⟨(some 135), .mv (.t 11), none, [], false⟩,
                             ⟨(some 136), .bin .add (.t 134) (.t 135), none, [], false⟩,
                             ⟨(some 137), .iad 1 (.t 125) (.t 132), none, [], false⟩,
                             ⟨none, .st 1 (.t 137) (.t 136), none, [], false⟩])
                           (.reg [
                             ⟨(some 138), .mv (.t 0), none, [], false⟩,
                             ⟨(some 139), .nchk (.t 138), none, [], false⟩,
                             ⟨(some 140), .fad 2 (.t 139), none, [], false⟩,
                             ⟨(some 141), .ld1 (.t 140), none, [], false⟩,
                             ⟨(some 142), .mv (.t 15), none, [], false⟩,
                             ⟨(some 143), .iad 1 (.t 141) (.t 142), none, [], false⟩,
                             ⟨(some 144), .ld1 (.t 143), none, [], false⟩,
                             ⟨(some 145), .mv (.t 11), none, [], false⟩,
                             ⟨(some 146), .bin .sub (.t 144) (.t 145), none, [], false⟩,
                             ⟨(some 147), .iad 1 (.t 141) (.t 142), none, [], false⟩,
                             ⟨none, .st 1 (.t 147) (.t 146), none, [], false⟩]))
                          (.reg [
                            ⟨(some 148), .mv (.t 5), none, [], false⟩,
                            ⟨(some 149), .mv (.t 15), none, [], false⟩,
                            ⟨(some 150), .iad 1 (.t 148) (.t 149), none, [], false⟩,
                            ⟨(some 151), .ld1 (.t 150), none, [], false⟩,
                            ⟨(some 152), .mv (.t 11), none, [], false⟩,
                            ⟨(some 153), .bin .sub (.t 151) (.t 152), none, [], false⟩,
                            ⟨(some 154), .iad 1 (.t 148) (.t 149), none, [], false⟩,
                            ⟨none, .st 1 (.t 154) (.t 153), none, [], false⟩])))))
                      (.reg [
                        ⟨(some 155), .bin .add (.t 115) (.k (.int .i64 1)), none, [], false⟩,
                        ⟨(some 115), .mv (.t 155), none, [], false⟩])))))))
                (.seq (.reg [
                   ⟨(some 156), .mv (.t 12), none, [], false⟩,
                   ⟨(some 9), .mv (.t 156), none, [], false⟩])
                 (.seq (.reg [
                    ⟨(some 157), .mv (.t 0), none, [], false⟩,
                    ⟨(some 158), .nchk (.t 157), none, [], false⟩,
                    ⟨(some 159), .fad 3 (.t 158), none, [], false⟩,
                    ⟨(some 160), .ld1 (.t 159), none, [], false⟩,
                    ⟨(some 161), .mv (.t 9), none, [], false⟩,
                    ⟨(some 162), .iad 1 (.t 160) (.t 161), none, [], false⟩,
                    ⟨(some 163), .ld1 (.t 162), none, [], false⟩,
                    ⟨(some 164), .bin .eql (.t 163) (.k (.int .i64 0)), none, [], false⟩])
                  (.cond (.t 164) (.exit 2)
                   (.skip)))))))))))
         (.blk 8 (.loop (.seq (.seq (.reg [
               ⟨(some 165), .mv (.t 9), none, [], false⟩,
               ⟨(some 166), .bin .neq (.t 165) (.k (.int .i64 0)), none, [], false⟩])
             (.cond (.t 166) (.skip)
              (.exit 8)))
            (.blk 9 (.seq (.reg [
                ⟨(some 167), .mv (.t 0), none, [], false⟩,
                ⟨(some 168), .nchk (.t 167), none, [], false⟩,
                ⟨(some 169), .fad 3 (.t 168), none, [], false⟩,
                ⟨(some 170), .ld1 (.t 169), none, [], false⟩,
                ⟨(some 171), .mv (.t 9), none, [], false⟩,
                ⟨(some 172), .mv (.t 0), none, [], false⟩,
                ⟨(some 173), .nchk (.t 172), none, [], false⟩,
                ⟨(some 174), .fad 3 (.t 173), none, [], false⟩,
                ⟨(some 175), .ld1 (.t 174), none, [], false⟩,
                ⟨(some 176), .mv (.t 6), none, [], false⟩,
                ⟨(some 177), .mv (.t 9), none, [], false⟩,
                ⟨(some 178), .iad 1 (.t 176) (.t 177), none, [], false⟩,
                ⟨(some 179), .ld1 (.t 178), none, [], false⟩,
                ⟨(some 180), .iad 1 (.t 175) (.t 179), none, [], false⟩,
                ⟨(some 181), .ld1 (.t 180), none, [], false⟩,
                ⟨(some 182), .iad 1 (.t 170) (.t 171), none, [], false⟩,
                ⟨none, .st 1 (.t 182) (.t 181), none, [], false⟩])
              (.reg [
                ⟨(some 183), .mv (.t 6), none, [], false⟩,
                ⟨(some 184), .mv (.t 9), none, [], false⟩,
                ⟨(some 185), .iad 1 (.t 183) (.t 184), none, [], false⟩,
                ⟨(some 186), .ld1 (.t 185), none, [], false⟩,
                ⟨(some 9), .mv (.t 186), none, [], false⟩])))))))))))
/-- skyway/assign.total -/
def c88 : CF where
  np := 1
  nt := 65
  res := [.t 2]
  code := .seq (.reg [
      ⟨(some 2), .mv (.k (.int .i64 0)), none, [], false⟩])
    (.seq (.seq (.reg [
        ⟨(some 8), .mv (.t 0), none, [], false⟩,
        ⟨(some 9), .lenv false (.t 8), none, [], false⟩,
        ⟨(some 10), .bin .eql (.t 9) (.k (.int .i64 0)), none, [], false⟩])
      (.cond (.t 10) (.seq (.reg [
          ⟨(some 2), .mv (.k (.int .i64 0)), none, [], false⟩])
        (.ret))
       (.skip)))
     (.seq (.reg [
        ⟨(some 11), .mv (.t 0), none, [], false⟩,
        ⟨(some 12), .mv (.t 0), none, [], false⟩,
        ⟨(some 13), .lenv false (.t 12), none, [], false⟩,
        ⟨(some 14), .bin .add (.t 13) (.k (.int .i64 1)), none, [], false⟩,
        ⟨(some 15), .mksl [.int .i64 0] 8 (.t 14) (.t 14), none, [], false⟩,
        ⟨(some 16), .mv (.t 0), none, [], false⟩,
        ⟨(some 17), .iad 1 (.t 16) (.k (.int .i64 0)), none, [], false⟩,
        ⟨(some 18), .ld1 (.t 17), none, [], false⟩,
        ⟨(some 19), .lenv false (.t 18), none, [], false⟩,
        ⟨(some 20), .bin .add (.t 19) (.k (.int .i64 1)), none, [], false⟩,
        ⟨(some 21), .mksl [.int .i64 0] 8 (.t 20) (.t 20), none, [], false⟩,
        ⟨(some 22), .mv (.t 0), none, [], false⟩,
        ⟨(some 23), .iad 1 (.t 22) (.k (.int .i64 0)), none, [], false⟩,
        ⟨(some 24), .ld1 (.t 23), none, [], false⟩,
        ⟨(some 25), .lenv false (.t 24), none, [], false⟩,
        ⟨(some 26), .bin .add (.t 25) (.k (.int .i64 1)), none, [], false⟩,
        ⟨(some 27), .mksl [.int .i64 0] 8 (.t 26) (.t 26), none, [], false⟩,
        ⟨(some 28), .mk [.sl true 0 0 0 0 0, .sl true 0 0 0 0 0, .sl true 0 0 0 0 0, .sl true 0 0 0 0 0] [(0, 1, (.t 11)), (1, 1, (.t 15)), (2, 1, (.t 21)), (3, 1, (.t 27))], none, [], false⟩,
        ⟨(some 29), .box (.t 28), none, [], false⟩,
        ⟨(some 3), .mv (.t 29), none, [], false⟩])
      (.seq (.seq (.reg [
          ⟨(some 30), .mv (.t 0), none, [], false⟩,
          ⟨(some 31), .lenv false (.t 30), none, [], false⟩,
          ⟨(some 32), .mv (.k (.int .i64 0)), none, [], false⟩])
        (.blk 0 (.loop (.seq (.reg [
             ⟨(some 33), .bin .lss (.t 32) (.t 31), none, [], false⟩])
           (.seq (.cond (.t 33) (.skip)
             (.exit 0))
            (.seq (.blk 1 (.seq (.reg [
                 ⟨(some 34), .mv (.t 32), none, [], false⟩,
                 ⟨(some 4), .mv (.t 34), none, [], false⟩])
               (.reg [
                 ⟨(some 35), .mv (.t 3), none, [], false⟩,
                 ⟨(some 36), .mv (.t 4), none, [], false⟩,
                 ⟨(some 37), .bin .add (.t 36) (.k (.int .i64 1)), none, [], false⟩,
                 ⟨(some 38), .call (.k (.fn 116 [])) [(.t 35), (.t 37)], none, [], false⟩])))
             (.reg [
               ⟨(some 39), .bin .add (.t 32) (.k (.int .i64 1)), none, [], false⟩,
               ⟨(some 32), .mv (.t 39), none, [], false⟩])))))))
       (.seq (.reg [
          ⟨(some 5), .mv (.k (.int .i64 0)), none, [], false⟩])
        (.seq (.seq (.reg [
            ⟨(some 40), .mv (.t 3), none, [], false⟩,
            ⟨(some 41), .nchk (.t 40), none, [], false⟩,
            ⟨(some 42), .fad 3 (.t 41), none, [], false⟩,
            ⟨(some 43), .ld1 (.t 42), none, [], false⟩,
            ⟨(some 44), .slc 1 (.t 43) (some (.k (.int .i64 1))) none, none, [], false⟩,
            ⟨(some 45), .lenv false (.t 44), none, [], false⟩,
            ⟨(some 46), .mv (.k (.int .i64 0)), none, [], false⟩])
          (.blk 2 (.loop (.seq (.reg [
               ⟨(some 47), .bin .lss (.t 46) (.t 45), none, [], false⟩])
             (.seq (.cond (.t 47) (.skip)
               (.exit 2))
              (.seq (.blk 3 (.seq (.reg [
                   ⟨(some 48), .mv (.t 46), none, [], false⟩,
                   ⟨(some 49), .iad 1 (.t 44) (.t 46), none, [], false⟩,
                   ⟨(some 50), .ld1 (.t 49), none, [], false⟩,
                   ⟨(some 6), .mv (.t 48), none, [], false⟩,
                   ⟨(some 7), .mv (.t 50), none, [], false⟩])
                 (.seq (.reg [
                    ⟨(some 51), .mv (.t 7), none, [], false⟩,
                    ⟨(some 52), .bin .gtr (.t 51) (.k (.int .i64 0)), none, [], false⟩])
                  (.cond (.t 52) (.reg [
                     ⟨(some 53), .mv (.t 5), none, [], false⟩,
                     ⟨(some 54), .mv (.t 0), none, [], false⟩,
                     ⟨(some 55), .mv (.t 7), none, [], false⟩,
                     ⟨(some 56), .bin .sub (.t 55) (.k (.int .i64 1)), none, [], false⟩,
                     ⟨(some 57), .iad 1 (.t 54) (.t 56), none, [], false⟩,
                     ⟨(some 58), .ld1 (.t 57), none, [], false⟩,
                     ⟨(some 59), .mv (.t 6), none, [], false⟩,
                     ⟨(some 60), .iad 1 (.t 58) (.t 59), none, [], false⟩,
                     ⟨(some 61), .ld1 (.t 60), none, [], false⟩,
                     ⟨(some 62), .bin .add (.t 53) (.t 61), none, [], false⟩,
                     ⟨(some 5), .mv (.t 62), none, [], false⟩])
                   (.skip)))))
               (.reg [
                 ⟨(some 63), .bin .add (.t 46) (.k (.int .i64 1)), none, [], false⟩,
                 ⟨(some 46), .mv (.t 63), none, [], false⟩])))))))
         (.seq (.reg [
            ⟨(some 64), .mv (.t 5), none, [], false⟩,
            ⟨(some 2), .mv (.t 64), none, [], false⟩])
          (.ret)))))))
/-- skyway/assign.count -/
def c117 : CF where
  np := 1
  nt := 15
  res := [.t 2]
  code := .seq (.reg [
      ⟨(some 2), .mv (.k (.sl true 0 0 0 0 0)), none, [], false⟩])
    (.seq (.reg [
       ⟨(some 3), .mv (.k (.sl true 0 0 0 0 0)), none, [], false⟩])
     (.seq (.seq (.reg [
         ⟨(some 5), .mv (.t 0), none, [], false⟩,
         ⟨(some 6), .mv (.k (.int .i64 0)), none, [], false⟩])
       (.blk 0 (.loop (.seq (.reg [
            ⟨(some 7), .bin .lss (.t 6) (.t 5), none, [], false⟩])
          (.seq (.cond (.t 7) (.skip)
            (.exit 0))
           (.seq (.blk 1 (.seq (.reg [
                ⟨(some 8), .mv (.t 6), none, [], false⟩,
                ⟨(some 4), .mv (.t 8), none, [], false⟩])
              (.reg [
                ⟨(some 9), .mv (.t 3), none, [], false⟩,
                ⟨(some 10), .mv (.t 4), none, [], false⟩,
                ⟨(some 11), .mks [.int .i64 0] 1 1 [(0, 1, (.t 10))], none, [], false⟩,
                ⟨(some 12), .app 1 8 (.t 9) (.t 11), none, [], false⟩,
                ⟨(some 3), .mv (.t 12), none, [], false⟩])))
            (.reg [
              ⟨(some 13), .bin .add (.t 6) (.k (.int .i64 1)), none, [], false⟩,
              ⟨(some 6), .mv (.t 13), none, [], false⟩])))))))
      (.seq (.reg [
         ⟨(some 14), .mv (.t 3), none, [], false⟩,
         ⟨(some 2), .mv (.t 14), none, [], false⟩])
       (.ret))))
/-- skyway/assign.choose -/
def c90 : CF where
  np := 4
  nt := 75
  res := [.t 8]
  code := .seq (.reg [
      ⟨(some 8), .mv (.k (.int .i64 0)), none, [], false⟩])
    (.seq (.reg [
       ⟨(some 13), .mv (.t 0), none, [], false⟩,
       ⟨(some 14), .mv (.t 1), none, [], false⟩,
       ⟨(some 15), .iad 1 (.t 13) (.t 14), none, [], false⟩,
       ⟨(some 16), .ld1 (.t 15), none, [], false⟩,
       ⟨(some 9), .mv (.t 16), none, [], false⟩])
     (.seq (.seq (.reg [
         ⟨(some 17), .mv (.t 2), none, [], false⟩,
         ⟨(some 18), .mv (.t 1), none, [], false⟩,
         ⟨(some 19), .bin .add (.t 17) (.t 18), none, [], false⟩,
         ⟨(some 20), .mks [.int .i64 0] 1 1 [(0, 1, (.t 19))], none, [], false⟩,
         ⟨(some 21), .mv (.t 2), none, [], false⟩,
         ⟨(some 22), .call (.k (.fn 117 [])) [(.t 21)], none, [], false⟩,
         ⟨(some 23), .app 1 8 (.t 20) (.t 22), none, [], false⟩,
         ⟨(some 24), .lenv false (.t 23), none, [], false⟩,
         ⟨(some 25), .mv (.k (.int .i64 0)), none, [], false⟩])
       (.blk 0 (.loop (.seq (.reg [
            ⟨(some 26), .bin .lss (.t 25) (.t 24), none, [], false⟩])
          (.seq (.cond (.t 26) (.skip)
            (.exit 0))
           (.seq (.blk 1 (.seq (.reg [
                ⟨(some 27), .iad 1 (.t 23) (.t 25), none, [], false⟩,
                ⟨(some 28), .ld1 (.t 27), none, [], false⟩,
                ⟨(some 11), .mv (.t 28), none, [], false⟩])
              (.seq (.seq (.reg [
                  ⟨(some 29), .mv (.t 9), none, [], false⟩,
                  ⟨(some 30), .mv (.t 11), none, [], false⟩,
                  ⟨(some 31), .iad 1 (.t 29) (.t 30), none, [], false⟩,
                  ⟨(some 32), .ld1 (.t 31), none, [], false⟩,
                  ⟨(some 33), .bin .eql (.t 32) (.k (.int .i64 1125899906842624)), none, [], false⟩])
                (.cond (.t 33) (.exit 1)
                 (.skip)))
               (.seq (.reg [
                  ⟨(some 34), .mv (.t 0), none, [], false⟩,
                  ⟨(some 35), .mv (.t 1), none, [], false⟩,
                  ⟨(some 36), .mv (.t 9), none, [], false⟩,
                  ⟨(some 37), .lenv false (.t 36), none, [], false⟩,
                  ⟨(some 38), .mksl [.int .i64 0] 8 (.t 37) (.t 37), none, [], false⟩,
                  ⟨(some 39), .iad 1 (.t 34) (.t 35), none, [], false⟩,
                  ⟨none, .st 1 (.t 39) (.t 38), none, [], false⟩])
                (.seq (.seq (.reg [
                    ⟨(some 40), .mv (.t 9), none, [], false⟩,
                    ⟨(some 41), .lenv false (.t 40), none, [], false⟩,
                    ⟨(some 42), .mv (.k (.int .i64 0)), none, [], false⟩])
                  (.blk 2 (.loop (.seq (.reg [
                       ⟨(some 43), .bin .lss (.t 42) (.t 41), none, [], false⟩])
                     (.seq (.cond (.t 43) (.skip)
                       (.exit 2))
                      (.seq (.blk 3 (.seq (.reg [
                           ⟨(some 44), .mv (.t 42), none, [], false⟩,
                           ⟨(some 12), .mv (.t 44), none, [], false⟩])
                         (.reg [
                           ⟨(some 45), .mv (.t 0), none, [], false⟩,
                           ⟨(some 46), .mv (.t 1), none, [], false⟩,
                           ⟨(some 47), .iad 1 (.t 45) (.t 46), none, [], false⟩,
                           ⟨(some 48), .ld1 (.t 47), none, [], false⟩,
                           ⟨(some 49), .mv (.t 12), none, [], false⟩,
                           ⟨(some 50), .iad 1 (.t 48) (.t 49), none, [], false⟩,
                           ⟨none, .st 1 (.t 50) (.k (.int .i64 1125899906842624)), none, [], false⟩])))
                       (.reg [
                         ⟨(some 51), .bin .add (.t 42) (.k (.int .i64 1)), none, [], false⟩,
                         ⟨(some 42), .mv (.t 51), none, [], false⟩])))))))
                 (.seq (.reg [
                    ⟨(some 52), .mv (.t 0), none, [], false⟩,
                    ⟨(some 53), .mv (.t 1), none, [], false⟩,
                    ⟨(some 54), .iad 1 (.t 52) (.t 53), none, [], false⟩,
                    ⟨(some 55), .ld1 (.t 54), none, [], false⟩,
                    ⟨(some 56), .mv (.t 11), none, [], false⟩,
                    ⟨(some 57), .mv (.t 9), none, [], false⟩,
                    ⟨(some 58), .mv (.t 11), none, [], false⟩,
                    ⟨(some 59), .iad 1 (.t 57) (.t 58), none, [], false⟩,
                    ⟨(some 60), .ld1 (.t 59), none, [], false⟩,
                    ⟨(some 61), .iad 1 (.t 55) (.t 56), none, [], false⟩,
                    ⟨none, .st 1 (.t 61) (.t 60), none, [], false⟩])
                  (.seq (.reg [
                     ⟨(some 62), .mv (.t 0), none, [], false⟩,
                     ⟨(some 63), .call (.k (.fn 88 [])) [(.t 62)], none, [], false⟩,
                     ⟨(some 64), .mv (.t 3), none, [], false⟩,
                     ⟨(some 65), .bin .eql (.t 63) (.t 64), none, [], false⟩])
                   (.cond (.t 65) (.seq (.seq (.reg [
                        ⟨(some 66), .mv (.t 11), none, [], false⟩,
                        ⟨(some 67), .mv (.t 2), none, [], false⟩,
                        ⟨(some 68), .bin .lss (.t 66) (.t 67), none, [], false⟩])
                      (.cond (.t 68) (.seq (.reg [
                          ⟨(some 69), .mv (.t 11), none, [], false⟩,
                          ⟨(some 8), .mv (.t 69), none, [], false⟩])
                        (.ret))
                       (.skip)))
                     (.seq (.reg [
                        ⟨(some 8), .mv (.k (.int .i64 (-1))), none, [], false⟩])
                      (.ret)))
                    (.skip)))))))))
            (.reg [
              ⟨(some 70), .bin .add (.t 25) (.k (.int .i64 1)), none, [], false⟩,
              ⟨(some 25), .mv (.t 70), none, [], false⟩])))))))
      (.seq (.reg [
         ⟨(some 71), .mv (.t 0), none, [], false⟩,
         ⟨(some 72), .mv (.t 1), none, [], false⟩,
         ⟨(some 73), .mv (.t 9), none, [], false⟩,
         ⟨(some 74), .iad 1 (.t 71) (.t 72), none, [], false⟩,
         ⟨none, .st 1 (.t 74) (.t 73), none, [], false⟩])
       (.seq (.reg [
          ⟨(some 8), .mv (.k (.int .i64 (-1))), none, [], false⟩])
        (.ret)))))
/-- skyway/assign.Best -/
def c50 : CF where
  np := 2
  nt := 43
  res := [.t 4, .t 5, .t 6]
  code := .seq (.reg [
      ⟨(some 4), .mv (.k (.sl true 0 0 0 0 0)), none, [], false⟩,
      ⟨(some 5), .mv (.k (.int .i64 0)), none, [], false⟩,
      ⟨(some 6), .mv (.k (.int .i64 0)), none, [], false⟩])
    (.seq (.seq (.reg [
        ⟨(some 12), .mv (.t 0), none, [], false⟩,
        ⟨(some 13), .mv (.t 1), none, [], false⟩,
        ⟨(some 14), .call (.k (.fn 87 [])) [(.t 12), (.t 13)], none, [], false⟩,
        ⟨(some 7), .mv (.t 14), none, [], false⟩])
      (.seq (.reg [
         ⟨(some 15), .mv (.t 7), none, [], false⟩,
         ⟨(some 16), .bin .neq (.t 15) (.k (.int .i64 0)), none, [], false⟩])
       (.cond (.t 16) (.seq (.reg [
           ⟨(some 17), .mv (.t 7), none, [], false⟩,
           ⟨(some 4), .mv (.k (.sl true 0 0 0 0 0)), none, [], false⟩,
           ⟨(some 5), .mv (.k (.int .i64 0)), none, [], false⟩,
           ⟨(some 6), .mv (.t 17), none, [], false⟩])
         (.ret))
        (.skip))))
     (.seq (.reg [
        ⟨(some 18), .mv (.t 0), none, [], false⟩,
        ⟨(some 19), .mv (.t 1), none, [], false⟩,
        ⟨(some 20), .call (.k (.fn 89 [])) [(.t 18), (.t 19)], none, [], false⟩,
        ⟨(some 8), .mv (.t 20), none, [], false⟩])
      (.seq (.reg [
         ⟨(some 21), .mv (.t 8), none, [], false⟩,
         ⟨(some 22), .call (.k (.fn 88 [])) [(.t 21)], none, [], false⟩,
         ⟨(some 9), .mv (.t 22), none, [], false⟩])
       (.seq (.reg [
          ⟨(some 10), .mv (.k (.sl true 0 0 0 0 0)), none, [], false⟩])
        (.seq (.seq (.reg [
            ⟨(some 23), .mv (.t 0), none, [], false⟩,
            ⟨(some 24), .lenv false (.t 23), none, [], false⟩,
            ⟨(some 25), .mv (.k (.int .i64 0)), none, [], false⟩])
          (.blk 0 (.loop (.seq (.reg [
               ⟨(some 26), .bin .lss (.t 25) (.t 24), none, [], false⟩])
             (.seq (.cond (.t 26) (.skip)
               (.exit 0))
              (.seq (.blk 1 (.seq (.reg [
                   ⟨(some 27), .mv (.t 25), none, [], false⟩,
                   ⟨(some 11), .mv (.t 27), none, [], false⟩])
                 (.reg [
                   ⟨(some 28), .mv (.t 10), none, [], false⟩,
                   ⟨(some 29), .mv (.t 8), none, [], false⟩,
                   ⟨(some 30), .mv (.t 11), none, [], false⟩,
                   ⟨(some 31), .mv (.t 0), none, [], false⟩,
                   ⟨(some 32), .mv (.t 11), none, [], false⟩,
                   ⟨(some 33), .iad 1 (.t 31) (.t 32), none, [], false⟩,
                   ⟨(some 34), .ld1 (.t 33), none, [], false⟩,
                   ⟨(some 35), .lenv false (.t 34), none, [], false⟩,
                   ⟨(some 36), .mv (.t 9), none, [], false⟩,
                   ⟨(some 37), .call (.k (.fn 90 [])) [(.t 29), (.t 30), (.t 35), (.t 36)], none, [], false⟩,
                   ⟨(some 38), .mks [.int .i64 0] 1 1 [(0, 1, (.t 37))], none, [], false⟩,
                   ⟨(some 39), .app 1 8 (.t 28) (.t 38), none, [], false⟩,
                   ⟨(some 10), .mv (.t 39), none, [], false⟩])))
               (.reg [
                 ⟨(some 40), .bin .add (.t 25) (.k (.int .i64 1)), none, [], false⟩,
                 ⟨(some 25), .mv (.t 40), none, [], false⟩])))))))
         (.seq (.reg [
            ⟨(some 41), .mv (.t 10), none, [], false⟩,
            ⟨(some 42), .mv (.t 9), none, [], false⟩,
            ⟨(some 4), .mv (.t 41), none, [], false⟩,
            ⟨(some 5), .mv (.t 42), none, [], false⟩,
            ⟨(some 6), .mv (.k (.int .i64 0)), none, [], false⟩])
          (.ret)))))))
/-- slices.Equal[[]int,int] -/
def c86 : CF where
  np := 2
  nt := 26
  res := [.t 4]
  code := .seq (.reg [
      ⟨(some 4), .mv (.k (.bool false)), none, [], false⟩])
    (.seq (.seq (.reg [
        ⟨(some 6), .mv (.t 0), none, [], false⟩,
        ⟨(some 7), .lenv false (.t 6), none, [], false⟩,
        ⟨(some 8), .mv (.t 1), none, [], false⟩,
        ⟨(some 9), .lenv false (.t 8), none, [], false⟩,
        ⟨(some 10), .bin .neq (.t 7) (.t 9), none, [], false⟩])
      (.cond (.t 10) (.seq (.reg [
          ⟨(some 4), .mv (.k (.bool false)), none, [], false⟩])
        (.ret))
       (.skip)))
     (.seq (.seq (.reg [
         ⟨(some 11), .mv (.t 0), none, [], false⟩,
         ⟨(some 12), .lenv false (.t 11), none, [], false⟩,
         ⟨(some 13), .mv (.k (.int .i64 0)), none, [], false⟩])
       (.blk 0 (.loop (.seq (.reg [
            ⟨(some 14), .bin .lss (.t 13) (.t 12), none, [], false⟩])
          (.seq (.cond (.t 14) (.skip)
            (.exit 0))
           (.seq (.blk 1 (.seq (.reg [
                ⟨(some 15), .mv (.t 13), none, [], false⟩,
                ⟨(some 5), .mv (.t 15), none, [], false⟩])
              (.seq (.reg [
                 ⟨(some 16), .mv (.t 0), none, [], false⟩,
                 ⟨(some 17), .mv (.t 5), none, [], false⟩,
                 ⟨(some 18), .iad 1 (.t 16) (.t 17), none, [], false⟩,
                 ⟨(some 19), .ld1 (.t 18), none, [], false⟩,
                 ⟨(some 20), .mv (.t 1), none, [], false⟩,
                 ⟨(some 21), .mv (.t 5), none, [], false⟩,
                 ⟨(some 22), .iad 1 (.t 20) (.t 21), none, [], false⟩,
                 ⟨(some 23), .ld1 (.t 22), none, [], false⟩,
                 ⟨(some 24), .bin .neq (.t 19) (.t 23), none, [], false⟩])
               (.cond (.t 24) (.seq (.reg [
                   ⟨(some 4), .mv (.k (.bool false)), none, [], false⟩])
                 (.ret))
                (.skip)))))
            (.reg [
              ⟨(some 25), .bin .add (.t 13) (.k (.int .i64 1)), none, [], false⟩,
              ⟨(some 13), .mv (.t 25), none, [], false⟩])))))))
      (.seq (.reg [
         ⟨(some 4), .mv (.k (.bool true)), none, [], false⟩])
       (.ret))))
/-- skyway/skywaykeep2.assigns -/
def c46 : CF where
  np := 0
  nt := 22
  res := [.t 0]
  code := .seq (.reg [
      ⟨(some 0), .mv (.k (.bool false)), none, [], false⟩])
    (.seq (.reg [
       ⟨(some 5), .mks [.int .i64 0] 1 1 [(0, 1, (.k (.int .i64 3)))], none, [], false⟩,
       ⟨(some 6), .mks [.sl true 0 0 0 0 0] 1 1 [(0, 1, (.t 5))], none, [], false⟩,
       ⟨(some 7), .call (.k (.fn 50 [])) [(.t 6), (.k (.int .i64 10))], none, [], false⟩,
       ⟨(some 4), .mv (.t 7), none, [], false⟩,
       ⟨(some 8), .ext (.t 4) 0, none, [], false⟩,
       ⟨(some 9), .ext (.t 4) 1, none, [], false⟩,
       ⟨(some 10), .ext (.t 4) 2, none, [], false⟩,
       ⟨(some 1), .mv (.t 8), none, [], false⟩,
       ⟨(some 2), .mv (.t 9), none, [], false⟩,
       ⟨(some 3), .mv (.t 10), none, [], false⟩])
     (.seq (.reg [
        ⟨(some 11), .mv (.t 3), none, [], false⟩,
        ⟨(some 12), .bin .eql (.t 11) (.k (.int .i64 0)), none, [], false⟩,
        ⟨(some 13), .mv (.t 12), none, [], false⟩,
        ⟨(some 14), .mv (.t 2), (some (13, true)), [], false⟩,
        ⟨(some 15), .bin .eql (.t 14) (.k (.int .i64 3)), (some (13, true)), [], false⟩,
        ⟨(some 16), .pick (.t 13) (.t 15) (.k (.bool false)), none, [], false⟩,
        ⟨(some 17), .mv (.t 16), none, [], false⟩,
        ⟨(some 18), .mv (.t 1), (some (17, true)), [], false⟩,
        ⟨(some 19), .mks [.int .i64 0] 1 1 [(0, 1, (.k (.int .i64 0)))], (some (17, true)), [], false⟩,
        ⟨(some 20), .call (.k (.fn 86 [])) [(.t 18), (.t 19)], (some (17, true)), [], false⟩,
        ⟨(some 21), .pick (.t 17) (.t 20) (.k (.bool false)), none, [], false⟩,
        ⟨(some 0), .mv (.t 21), none, [], false⟩])
      (.ret)))
/-- skyway/assign.Total -/
def c47 : CF where
  np := 2
  nt := 17
  res := [.t 4, .t 5]
  code := .seq (.reg [
      ⟨(some 4), .mv (.k (.int .i64 0)), none, [], false⟩,
      ⟨(some 5), .mv (.k (.int .i64 0)), none, [], false⟩])
    (.seq (.seq (.reg [
        ⟨(some 7), .mv (.t 0), none, [], false⟩,
        ⟨(some 8), .mv (.t 1), none, [], false⟩,
        ⟨(some 9), .call (.k (.fn 87 [])) [(.t 7), (.t 8)], none, [], false⟩,
        ⟨(some 6), .mv (.t 9), none, [], false⟩])
      (.seq (.reg [
         ⟨(some 10), .mv (.t 6), none, [], false⟩,
         ⟨(some 11), .bin .neq (.t 10) (.k (.int .i64 0)), none, [], false⟩])
       (.cond (.t 11) (.seq (.reg [
           ⟨(some 12), .mv (.t 6), none, [], false⟩,
           ⟨(some 4), .mv (.k (.int .i64 0)), none, [], false⟩,
           ⟨(some 5), .mv (.t 12), none, [], false⟩])
         (.ret))
        (.skip))))
     (.seq (.reg [
        ⟨(some 13), .mv (.t 0), none, [], false⟩,
        ⟨(some 14), .mv (.t 1), none, [], false⟩,
        ⟨(some 15), .call (.k (.fn 89 [])) [(.t 13), (.t 14)], none, [], false⟩,
        ⟨(some 16), .call (.k (.fn 88 [])) [(.t 15)], none, [], false⟩,
        ⟨(some 4), .mv (.t 16), none, [], false⟩,
        ⟨(some 5), .mv (.k (.int .i64 0)), none, [], false⟩])
      (.ret)))
/-- slices.Clone[[][]int,[]int] -/
def c48 : CF where
  np := 1
  nt := 8
  res := [.t 2]
  code := .seq (.reg [
      ⟨(some 2), .mv (.k (.sl true 0 0 0 0 0)), none, [], false⟩])
    (.seq (.seq (.reg [
        ⟨(some 3), .mv (.t 0), none, [], false⟩,
        ⟨(some 4), .eqn false 0 (.t 3), none, [], false⟩])
      (.cond (.t 4) (.seq (.reg [
          ⟨(some 2), .mv (.k (.sl true 0 0 0 0 0)), none, [], false⟩])
        (.ret))
       (.skip)))
     (.seq (.reg [
        ⟨(some 5), .mks [] 1 0 [], none, [], false⟩,
        ⟨(some 6), .mv (.t 0), none, [], false⟩,
        ⟨(some 7), .app 1 24 (.t 5) (.t 6), none, [], false⟩,
        ⟨(some 2), .mv (.t 7), none, [], false⟩])
      (.ret)))
/-- skyway/skywaykeep2.within -/
def c20 : CF where
  np := 3
  nt := 21
  res := [.t 6]
  code := .seq (.reg [
      ⟨(some 6), .mv (.k (.int .i64 0)), none, [], false⟩])
    (.seq (.reg [
       ⟨(some 8), .mv (.t 2), none, [], false⟩,
       ⟨(some 9), .mv (.t 1), none, [], false⟩,
       ⟨(some 10), .bin .sub (.t 8) (.t 9), none, [], false⟩,
       ⟨(some 11), .bin .add (.t 10) (.k (.int .i64 1)), none, [], false⟩,
       ⟨(some 7), .mv (.t 11), none, [], false⟩])
     (.seq (.reg [
        ⟨(some 12), .mv (.t 1), none, [], false⟩,
        ⟨(some 13), .mv (.t 0), none, [], false⟩,
        ⟨(some 14), .mv (.t 7), none, [], false⟩,
        ⟨(some 15), .bin .rem (.t 13) (.t 14), none, [], false⟩,
        ⟨(some 16), .mv (.t 7), none, [], false⟩,
        ⟨(some 17), .bin .add (.t 15) (.t 16), none, [], false⟩,
        ⟨(some 18), .mv (.t 7), none, [], false⟩,
        ⟨(some 19), .bin .rem (.t 17) (.t 18), none, [], false⟩,
        ⟨(some 20), .bin .add (.t 12) (.t 19), none, [], false⟩,
        ⟨(some 6), .mv (.t 20), none, [], false⟩])
      (.ret)))
/-- skyway/skywaykeep2.AssignTurned -/
def c13 : CF where
  np := 5
  nt := 117
  res := [.t 10]
  code := .seq (.reg [
      ⟨(some 10), .mv (.k (.bool false)), none, [], false⟩])
    (.seq (.seq (.reg [
        ⟨(some 22), .call (.k (.fn 46 [])) [], none, [], false⟩,
        ⟨(some 23), .un .not (.t 22), none, [], false⟩])
      (.cond (.t 23) (.seq (.reg [
          ⟨(some 10), .mv (.k (.bool false)), none, [], false⟩])
        (.ret))
       (.skip)))
     (.seq (.reg [
        ⟨(some 25), .mv (.t 0), none, [], false⟩,
        ⟨(some 26), .mv (.t 1), none, [], false⟩,
        ⟨(some 27), .call (.k (.fn 47 [])) [(.t 25), (.t 26)], none, [], false⟩,
        ⟨(some 24), .mv (.t 27), none, [], false⟩,
        ⟨(some 28), .ext (.t 24) 0, none, [], false⟩,
        ⟨(some 29), .ext (.t 24) 1, none, [], false⟩,
        ⟨(some 11), .mv (.t 28), none, [], false⟩,
        ⟨(some 12), .mv (.t 29), none, [], false⟩])
      (.seq (.seq (.reg [
          ⟨(some 30), .mv (.t 12), none, [], false⟩,
          ⟨(some 31), .bin .neq (.t 30) (.k (.int .i64 0)), none, [], false⟩,
          ⟨(some 32), .mv (.t 31), none, [], false⟩,
          ⟨(some 33), .mv (.t 0), (some (32, false)), [], false⟩,
          ⟨(some 34), .lenv false (.t 33), (some (32, false)), [], false⟩,
          ⟨(some 35), .bin .eql (.t 34) (.k (.int .i64 0)), (some (32, false)), [], false⟩,
          ⟨(some 36), .pick (.t 32) (.k (.bool true)) (.t 35), none, [], false⟩])
        (.cond (.t 36) (.seq (.reg [
            ⟨(some 37), .mv (.t 11), none, [], false⟩,
            ⟨(some 38), .bin .eql (.t 37) (.k (.int .i64 0)), none, [], false⟩,
            ⟨(some 10), .mv (.t 38), none, [], false⟩])
          (.ret))
         (.skip)))
       (.seq (.reg [
          ⟨(some 39), .mv (.t 0), none, [], false⟩,
          ⟨(some 40), .call (.k (.fn 48 [])) [(.t 39)], none, [], false⟩,
          ⟨(some 13), .mv (.t 40), none, [], false⟩])
        (.seq (.reg [
           ⟨(some 41), .mv (.t 2), none, [], false⟩,
           ⟨(some 42), .mv (.t 13), none, [], false⟩,
           ⟨(some 43), .lenv false (.t 42), none, [], false⟩,
           ⟨(some 44), .bin .sub (.t 43) (.k (.int .i64 1)), none, [], false⟩,
           ⟨(some 45), .call (.k (.fn 20 [])) [(.t 41), (.k (.int .i64 0)), (.t 44)], none, [], false⟩,
           ⟨(some 46), .mv (.t 3), none, [], false⟩,
           ⟨(some 47), .mv (.t 13), none, [], false⟩,
           ⟨(some 48), .lenv false (.t 47), none, [], false⟩,
           ⟨(some 49), .bin .sub (.t 48) (.k (.int .i64 1)), none, [], false⟩,
           ⟨(some 50), .call (.k (.fn 20 [])) [(.t 46), (.k (.int .i64 0)), (.t 49)], none, [], false⟩,
           ⟨(some 2), .mv (.t 45), none, [], false⟩,
           ⟨(some 3), .mv (.t 50), none, [], false⟩])
         (.seq (.reg [
            ⟨(some 51), .mv (.t 13), none, [], false⟩,
            ⟨(some 52), .mv (.t 2), none, [], false⟩,
            ⟨(some 53), .mv (.t 13), none, [], false⟩,
            ⟨(some 54), .mv (.t 3), none, [], false⟩,
            ⟨(some 55), .mv (.t 13), none, [], false⟩,
            ⟨(some 56), .mv (.t 3), none, [], false⟩,
            ⟨(some 57), .iad 1 (.t 55) (.t 56), none, [], false⟩,
            ⟨(some 58), .ld1 (.t 57), none, [], false⟩,
            ⟨(some 59), .mv (.t 13), none, [], false⟩,
            ⟨(some 60), .mv (.t 2), none, [], false⟩,
            ⟨(some 61), .iad 1 (.t 59) (.t 60), none, [], false⟩,
            ⟨(some 62), .ld1 (.t 61), none, [], false⟩,
            ⟨(some 63), .iad 1 (.t 51) (.t 52), none, [], false⟩,
            ⟨none, .st 1 (.t 63) (.t 58), none, [], false⟩,
            ⟨(some 64), .iad 1 (.t 53) (.t 54), none, [], false⟩,
            ⟨none, .st 1 (.t 64) (.t 62), none, [], false⟩])
          (.seq (.reg [
             ⟨(some 66), .mv (.t 13), none, [], false⟩,
             ⟨(some 67), .mv (.t 1), none, [], false⟩,
             ⟨(some 68), .call (.k (.fn 47 [])) [(.t 66), (.t 67)], none, [], false⟩,
             ⟨(some 65), .mv (.t 68), none, [], false⟩,
             ⟨(some 69), .ext (.t 65) 0, none, [], false⟩,
             ⟨(some 70), .ext (.t 65) 1, none, [], false⟩,
             ⟨(some 14), .mv (.t 69), none, [], false⟩,
             ⟨(some 15), .mv (.t 70), none, [], false⟩])
           (.seq (.reg [
              ⟨(some 16), .mv (.k (.sl true 0 0 0 0 0)), none, [], false⟩])
            (.seq (.seq (.reg [
                ⟨(some 71), .mv (.t 0), none, [], false⟩,
                ⟨(some 72), .lenv false (.t 71), none, [], false⟩,
                ⟨(some 73), .mv (.k (.int .i64 0)), none, [], false⟩])
              (.blk 0 (.loop (.seq (.reg [
                   ⟨(some 74), .bin .lss (.t 73) (.t 72), none, [], false⟩])
                 (.seq (.cond (.t 74) (.skip)
                   (.exit 0))
                  (.seq (.blk 1 (.seq (.reg [
                       ⟨(some 75), .mv (.t 73), none, [], false⟩,
                       ⟨(some 76), .iad 1 (.t 71) (.t 73), none, [], false⟩,
                       ⟨(some 77), .ld1 (.t 76), none, [], false⟩,
                       ⟨(some 17), .mv (.t 75), none, [], false⟩,
                       ⟨(some 18), .mv (.t 77), none, [], false⟩])
                     (.seq (.reg [
                        ⟨(some 19), .mv (.k (.int .i64 (-1))), none, [], false⟩])
                      (.seq (.seq (.reg [
                          ⟨(some 78), .mv (.t 17), none, [], false⟩,
                          ⟨(some 79), .mv (.t 4), none, [], false⟩,
                          ⟨(some 80), .lenv false (.t 79), none, [], false⟩,
                          ⟨(some 81), .bin .lss (.t 78) (.t 80), none, [], false⟩])
                        (.cond (.t 81) (.reg [
                           ⟨(some 82), .mv (.t 4), none, [], false⟩,
                           ⟨(some 83), .mv (.t 17), none, [], false⟩,
                           ⟨(some 84), .iad 1 (.t 82) (.t 83), none, [], false⟩,
                           ⟨(some 85), .ld1 (.t 84), none, [], false⟩,
                           ⟨(some 19), .mv (.t 85), none, [], false⟩])
                         (.skip)))
                       (.reg [
                         ⟨(some 86), .mv (.t 16), none, [], false⟩,
                         ⟨(some 87), .mv (.t 18), none, [], false⟩,
                         ⟨(some 88), .call (.k (.fn 49 [])) [(.t 87)], none, [], false⟩,
                         ⟨(some 89), .mv (.t 19), none, [], false⟩,
                         ⟨(some 90), .mks [.int .i64 0] 1 1 [(0, 1, (.t 89))], none, [], false⟩,
                         ⟨(some 91), .app 1 8 (.t 88) (.t 90), none, [], false⟩,
                         ⟨(some 92), .mks [.sl true 0 0 0 0 0] 1 1 [(0, 1, (.t 91))], none, [], false⟩,
                         ⟨(some 93), .app 1 24 (.t 86) (.t 92), none, [], false⟩,
                         ⟨(some 16), .mv (.t 93), none, [], false⟩])))))
                   (.reg [
                     ⟨(some 94), .bin .add (.t 73) (.k (.int .i64 1)), none, [], false⟩,
                     ⟨(some 73), .mv (.t 94), none, [], false⟩])))))))
             (.seq (.reg [
                ⟨(some 96), .mv (.t 16), none, [], false⟩,
                ⟨(some 97), .mv (.t 1), none, [], false⟩,
                ⟨(some 98), .call (.k (.fn 47 [])) [(.t 96), (.t 97)], none, [], false⟩,
                ⟨(some 95), .mv (.t 98), none, [], false⟩,
                ⟨(some 99), .ext (.t 95) 0, none, [], false⟩,
                ⟨(some 100), .ext (.t 95) 1, none, [], false⟩,
                ⟨(some 20), .mv (.t 99), none, [], false⟩,
                ⟨(some 21), .mv (.t 100), none, [], false⟩])
              (.seq (.reg [
                 ⟨(some 101), .mv (.t 15), none, [], false⟩,
                 ⟨(some 102), .bin .eql (.t 101) (.k (.int .i64 0)), none, [], false⟩,
                 ⟨(some 103), .mv (.t 102), none, [], false⟩,
                 ⟨(some 104), .mv (.t 14), (some (103, true)), [], false⟩,
                 ⟨(some 105), .mv (.t 11), (some (103, true)), [], false⟩,
                 ⟨(some 106), .bin .eql (.t 104) (.t 105), (some (103, true)), [], false⟩,
                 ⟨(some 107), .pick (.t 103) (.t 106) (.k (.bool false)), none, [], false⟩,
                 ⟨(some 108), .mv (.t 107), none, [], false⟩,
                 ⟨(some 109), .mv (.t 21), (some (108, true)), [], false⟩,
                 ⟨(some 110), .bin .neq (.t 109) (.k (.int .i64 0)), (some (108, true)), [], false⟩,
                 ⟨(some 111), .mv (.t 110), (some (108, true)), [], false⟩,
                 ⟨(some 112), .mv (.t 20), (some (111, false)), [], false⟩,
                 ⟨(some 113), .mv (.t 11), (some (111, false)), [], false⟩,
                 ⟨(some 114), .bin .leq (.t 112) (.t 113), (some (111, false)), [], false⟩,
                 ⟨(some 115), .pick (.t 111) (.k (.bool true)) (.t 114), (some (108, true)), [], false⟩,
                 ⟨(some 116), .pick (.t 108) (.t 115) (.k (.bool false)), none, [], false⟩,
                 ⟨(some 10), .mv (.t 116), none, [], false⟩])
               (.ret))))))))))))
/-- slices.IndexFunc[[]int,int] -/
def c91 : CF where
  np := 2
  nt := 19
  res := [.t 4]
  code := .seq (.reg [
      ⟨(some 4), .mv (.k (.int .i64 0)), none, [], false⟩])
    (.seq (.seq (.reg [
        ⟨(some 6), .mv (.t 0), none, [], false⟩,
        ⟨(some 7), .lenv false (.t 6), none, [], false⟩,
        ⟨(some 8), .mv (.k (.int .i64 0)), none, [], false⟩])
      (.blk 0 (.loop (.seq (.reg [
           ⟨(some 9), .bin .lss (.t 8) (.t 7), none, [], false⟩])
         (.seq (.cond (.t 9) (.skip)
           (.exit 0))
          (.seq (.blk 1 (.seq (.reg [
               ⟨(some 10), .mv (.t 8), none, [], false⟩,
               ⟨(some 5), .mv (.t 10), none, [], false⟩])
             (.seq (.reg [
                ⟨(some 11), .mv (.t 1), none, [], false⟩,
                ⟨(some 12), .mv (.t 0), none, [], false⟩,
                ⟨(some 13), .mv (.t 5), none, [], false⟩,
                ⟨(some 14), .iad 1 (.t 12) (.t 13), none, [], false⟩,
                ⟨(some 15), .ld1 (.t 14), none, [], false⟩,
                ⟨(some 16), .call (.t 11) [(.t 15)], none, [], false⟩])
              (.cond (.t 16) (.seq (.reg [
                  ⟨(some 17), .mv (.t 5), none, [], false⟩,
                  ⟨(some 4), .mv (.t 17), none, [], false⟩])
                (.ret))
               (.skip)))))
           (.reg [
             ⟨(some 18), .bin .add (.t 8) (.k (.int .i64 1)), none, [], false⟩,
             ⟨(some 8), .mv (.t 18), none, [], false⟩])))))))
     (.seq (.reg [
        ⟨(some 4), .mv (.k (.int .i64 (-1))), none, [], false⟩])
      (.ret)))
/-- slices.ContainsFunc[[]int,int] -/
def c51 : CF where
  np := 2
  nt := 9
  res := [.t 4]
  code := .seq (.reg [
      ⟨(some 4), .mv (.k (.bool false)), none, [], false⟩])
    (.seq (.reg [
       ⟨(some 5), .mv (.t 0), none, [], false⟩,
       ⟨(some 6), .mv (.t 1), none, [], false⟩,
       ⟨(some 7), .call (.k (.fn 91 [])) [(.t 5), (.t 6)], none, [], false⟩,
       ⟨(some 8), .bin .geq (.t 7) (.k (.int .i64 0)), none, [], false⟩,
       ⟨(some 4), .mv (.t 8), none, [], false⟩])
     (.ret))
/-- skyway/skywaykeep2.AssignMisses$1 -/
def c52 : CF where
  np := 1
  nt := 5
  res := [.t 2]
  code := .seq (.reg [
      ⟨(some 2), .mv (.k (.bool false)), none, [], false⟩])
    (.seq (.reg [
       ⟨(some 3), .mv (.t 0), none, [], false⟩,
       ⟨(some 4), .bin .geq (.t 3) (.k (.int .i64 0)), none, [], false⟩,
       ⟨(some 2), .mv (.t 4), none, [], false⟩])
     (.ret))
/-- slices.Max[[]int,int] -/
def c53 : CF where
  np := 1
  nt := 25
  res := [.t 2]
  code := .seq (.reg [
      ⟨(some 2), .mv (.k (.int .i64 0)), none, [], false⟩])
    (.seq (.seq (.reg [
        ⟨(some 5), .mv (.t 0), none, [], false⟩,
        ⟨(some 6), .lenv false (.t 5), none, [], false⟩,
        ⟨(some 7), .bin .lss (.t 6) (.k (.int .i64 1)), none, [], false⟩])
      (.cond (.t 7) (.reg [
         ⟨(some 8), .bad, none, [], false⟩,
         ⟨none, .bad, none, [], false⟩])
       (.skip)))
     (.seq (.reg [
        ⟨(some 9), .mv (.t 0), none, [], false⟩,
        ⟨(some 10), .iad 1 (.t 9) (.k (.int .i64 0)), none, [], false⟩,
        ⟨(some 11), .ld1 (.t 10), none, [], false⟩,
        ⟨(some 3), .mv (.t 11), none, [], false⟩])
      (.seq (.seq (.reg [
          ⟨(some 4), .mv (.k (.int .i64 1)), none, [], false⟩])
        (.blk 0 (.loop (.seq (.seq (.reg [
              ⟨(some 12), .mv (.t 4), none, [], false⟩,
              ⟨(some 13), .mv (.t 0), none, [], false⟩,
              ⟨(some 14), .lenv false (.t 13), none, [], false⟩,
              ⟨(some 15), .bin .lss (.t 12) (.t 14), none, [], false⟩])
            (.cond (.t 15) (.skip)
             (.exit 0)))
           (.seq (.blk 1 (.reg [
               ⟨(some 18), .mv (.t 3), none, [], false⟩,
               ⟨(some 19), .mv (.t 0), none, [], false⟩,
               ⟨(some 20), .mv (.t 4), none, [], false⟩,
               ⟨(some 21), .iad 1 (.t 19) (.t 20), none, [], false⟩,
               ⟨(some 22), .ld1 (.t 21), none, [], false⟩,
               ⟨(some 23), .mnx true (.t 18) [(.t 22)], none, [], false⟩,
               ⟨(some 3), .mv (.t 23), none, [], false⟩]))
            (.reg [
              ⟨(some 16), .mv (.t 4), none, [], false⟩,
              ⟨(some 17), .bin .add (.t 16) (.k (.int .i64 1)), none, [], false⟩,
              ⟨(some 4), .mv (.t 17), none, [], false⟩]))))))
       (.seq (.reg [
          ⟨(some 24), .mv (.t 3), none, [], false⟩,
          ⟨(some 2), .mv (.t 24), none, [], false⟩])
        (.ret)))))
/-- slices.Index[[]int,int] -/
def c92 : CF where
  np := 2
  nt := 19
  res := [.t 4]
  code := .seq (.reg [
      ⟨(some 4), .mv (.k (.int .i64 0)), none, [], false⟩])
    (.seq (.seq (.reg [
        ⟨(some 6), .mv (.t 0), none, [], false⟩,
        ⟨(some 7), .lenv false (.t 6), none, [], false⟩,
        ⟨(some 8), .mv (.k (.int .i64 0)), none, [], false⟩])
      (.blk 0 (.loop (.seq (.reg [
           ⟨(some 9), .bin .lss (.t 8) (.t 7), none, [], false⟩])
         (.seq (.cond (.t 9) (.skip)
           (.exit 0))
          (.seq (.blk 1 (.seq (.reg [
               ⟨(some 10), .mv (.t 8), none, [], false⟩,
               ⟨(some 5), .mv (.t 10), none, [], false⟩])
             (.seq (.reg [
                ⟨(some 11), .mv (.t 1), none, [], false⟩,
                ⟨(some 12), .mv (.t 0), none, [], false⟩,
                ⟨(some 13), .mv (.t 5), none, [], false⟩,
                ⟨(some 14), .iad 1 (.t 12) (.t 13), none, [], false⟩,
                ⟨(some 15), .ld1 (.t 14), none, [], false⟩,
                ⟨(some 16), .bin .eql (.t 11) (.t 15), none, [], false⟩])
              (.cond (.t 16) (.seq (.reg [
                  ⟨(some 17), .mv (.t 5), none, [], false⟩,
                  ⟨(some 4), .mv (.t 17), none, [], false⟩])
                (.ret))
               (.skip)))))
           (.reg [
             ⟨(some 18), .bin .add (.t 8) (.k (.int .i64 1)), none, [], false⟩,
             ⟨(some 8), .mv (.t 18), none, [], false⟩])))))))
     (.seq (.reg [
        ⟨(some 4), .mv (.k (.int .i64 (-1))), none, [], false⟩])
      (.ret)))
/-- slices.Contains[[]int,int] -/
def c54 : CF where
  np := 2
  nt := 9
  res := [.t 4]
  code := .seq (.reg [
      ⟨(some 4), .mv (.k (.bool false)), none, [], false⟩])
    (.seq (.reg [
       ⟨(some 5), .mv (.t 0), none, [], false⟩,
       ⟨(some 6), .mv (.t 1), none, [], false⟩,
       ⟨(some 7), .call (.k (.fn 92 [])) [(.t 5), (.t 6)], none, [], false⟩,
       ⟨(some 8), .bin .geq (.t 7) (.k (.int .i64 0)), none, [], false⟩,
       ⟨(some 4), .mv (.t 8), none, [], false⟩])
     (.ret))
/-- skyway/skywaykeep2.AssignMisses -/
def c14 : CF where
  np := 1
  nt := 90
  res := [.t 2]
  code := .seq (.reg [
      ⟨(some 2), .mv (.k (.bool false)), none, [], false⟩])
    (.seq (.seq (.reg [
        ⟨(some 13), .call (.k (.fn 46 [])) [], none, [], false⟩,
        ⟨(some 14), .un .not (.t 13), none, [], false⟩])
      (.cond (.t 14) (.seq (.reg [
          ⟨(some 2), .mv (.k (.bool false)), none, [], false⟩])
        (.ret))
       (.skip)))
     (.seq (.seq (.reg [
         ⟨(some 15), .mv (.t 0), none, [], false⟩,
         ⟨(some 16), .lenv false (.t 15), none, [], false⟩,
         ⟨(some 17), .bin .gtr (.t 16) (.k (.int .i64 8)), none, [], false⟩])
       (.cond (.t 17) (.reg [
          ⟨(some 18), .mv (.t 0), none, [], false⟩,
          ⟨(some 19), .slc 1 (.t 18) none (some (.k (.int .i64 8))), none, [], false⟩,
          ⟨(some 0), .mv (.t 19), none, [], false⟩])
        (.skip)))
      (.seq (.reg [
         ⟨(some 21), .mv (.t 0), none, [], false⟩,
         ⟨(some 22), .call (.k (.fn 50 [])) [(.t 21), (.k (.int .i64 0))], none, [], false⟩,
         ⟨(some 20), .mv (.t 22), none, [], false⟩,
         ⟨(some 23), .ext (.t 20) 0, none, [], false⟩,
         ⟨(some 24), .ext (.t 20) 1, none, [], false⟩,
         ⟨(some 25), .ext (.t 20) 2, none, [], false⟩,
         ⟨(some 3), .mv (.t 23), none, [], false⟩,
         ⟨(some 4), .mv (.t 24), none, [], false⟩,
         ⟨(some 5), .mv (.t 25), none, [], false⟩])
       (.seq (.seq (.reg [
           ⟨(some 26), .mv (.t 5), none, [], false⟩,
           ⟨(some 27), .bin .neq (.t 26) (.k (.int .i64 0)), none, [], false⟩])
         (.cond (.t 27) (.seq (.reg [
             ⟨(some 28), .mv (.t 3), none, [], false⟩,
             ⟨(some 29), .lenv false (.t 28), none, [], false⟩,
             ⟨(some 30), .bin .eql (.t 29) (.k (.int .i64 0)), none, [], false⟩,
             ⟨(some 2), .mv (.t 30), none, [], false⟩])
           (.ret))
          (.skip)))
        (.seq (.seq (.reg [
            ⟨(some 31), .mv (.t 4), none, [], false⟩,
            ⟨(some 32), .bin .neq (.t 31) (.k (.int .i64 0)), none, [], false⟩,
            ⟨(some 33), .mv (.t 32), none, [], false⟩,
            ⟨(some 34), .mv (.t 3), (some (33, false)), [], false⟩,
            ⟨(some 35), .call (.k (.fn 51 [])) [(.t 34), (.k (.fn 52 []))], (some (33, false)), [], false⟩,
            ⟨(some 36), .pick (.t 33) (.k (.bool true)) (.t 35), none, [], false⟩])
          (.cond (.t 36) (.seq (.reg [
              ⟨(some 2), .mv (.k (.bool false)), none, [], false⟩])
            (.ret))
           (.skip)))
         (.seq (.reg [
            ⟨(some 38), .mv (.t 0), none, [], false⟩,
            ⟨(some 39), .call (.k (.fn 50 [])) [(.t 38), (.k (.int .i64 1099511627776))], none, [], false⟩,
            ⟨(some 37), .mv (.t 39), none, [], false⟩,
            ⟨(some 40), .ext (.t 37) 0, none, [], false⟩,
            ⟨(some 41), .ext (.t 37) 1, none, [], false⟩,
            ⟨(some 42), .ext (.t 37) 2, none, [], false⟩,
            ⟨(some 6), .mv (.t 40), none, [], false⟩,
            ⟨(some 7), .mv (.t 41), none, [], false⟩,
            ⟨(some 8), .mv (.t 42), none, [], false⟩])
          (.seq (.seq (.reg [
              ⟨(some 43), .mv (.t 0), none, [], false⟩,
              ⟨(some 44), .lenv false (.t 43), none, [], false⟩,
              ⟨(some 45), .mv (.k (.int .i64 0)), none, [], false⟩])
            (.blk 0 (.loop (.seq (.reg [
                 ⟨(some 46), .bin .lss (.t 45) (.t 44), none, [], false⟩])
               (.seq (.cond (.t 46) (.skip)
                 (.exit 0))
                (.seq (.blk 1 (.seq (.reg [
                     ⟨(some 47), .mv (.t 45), none, [], false⟩,
                     ⟨(some 48), .iad 1 (.t 43) (.t 45), none, [], false⟩,
                     ⟨(some 49), .ld1 (.t 48), none, [], false⟩,
                     ⟨(some 9), .mv (.t 47), none, [], false⟩,
                     ⟨(some 10), .mv (.t 49), none, [], false⟩])
                   (.seq (.reg [
                      ⟨(some 50), .mv (.t 8), none, [], false⟩,
                      ⟨(some 51), .bin .eql (.t 50) (.k (.int .i64 0)), none, [], false⟩,
                      ⟨(some 52), .mv (.t 51), none, [], false⟩,
                      ⟨(some 53), .mv (.t 6), (some (52, true)), [], false⟩,
                      ⟨(some 54), .mv (.t 9), (some (52, true)), [], false⟩,
                      ⟨(some 55), .iad 1 (.t 53) (.t 54), (some (52, true)), [], false⟩,
                      ⟨(some 56), .ld1 (.t 55), (some (52, true)), [], false⟩,
                      ⟨(some 57), .bin .lss (.t 56) (.k (.int .i64 0)), (some (52, true)), [], false⟩,
                      ⟨(some 58), .pick (.t 52) (.t 57) (.k (.bool false)), none, [], false⟩,
                      ⟨(some 59), .mv (.t 58), none, [], false⟩,
                      ⟨(some 60), .mv (.t 10), (some (59, true)), [], false⟩,
                      ⟨(some 61), .call (.k (.fn 49 [])) [(.t 60)], (some (59, true)), [], false⟩,
                      ⟨(some 62), .mks [.int .i64 0] 1 1 [(0, 1, (.k (.int .i64 (-1))))], (some (59, true)), [], false⟩,
                      ⟨(some 63), .app 1 8 (.t 61) (.t 62), (some (59, true)), [], false⟩,
                      ⟨(some 64), .call (.k (.fn 53 [])) [(.t 63)], (some (59, true)), [], false⟩,
                      ⟨(some 65), .bin .geq (.t 64) (.k (.int .i64 0)), (some (59, true)), [], false⟩,
                      ⟨(some 66), .pick (.t 59) (.t 65) (.k (.bool false)), none, [], false⟩])
                    (.cond (.t 66) (.seq (.reg [
                        ⟨(some 67), .mv (.t 10), none, [], false⟩,
                        ⟨(some 68), .lenv false (.t 67), none, [], false⟩,
                        ⟨(some 69), .mv (.k (.int .i64 0)), none, [], false⟩])
                      (.blk 2 (.loop (.seq (.reg [
                           ⟨(some 70), .bin .lss (.t 69) (.t 68), none, [], false⟩])
                         (.seq (.cond (.t 70) (.skip)
                           (.exit 2))
                          (.seq (.blk 3 (.seq (.reg [
                               ⟨(some 71), .mv (.t 69), none, [], false⟩,
                               ⟨(some 72), .iad 1 (.t 67) (.t 69), none, [], false⟩,
                               ⟨(some 73), .ld1 (.t 72), none, [], false⟩,
                               ⟨(some 11), .mv (.t 71), none, [], false⟩,
                               ⟨(some 12), .mv (.t 73), none, [], false⟩])
                             (.seq (.reg [
                                ⟨(some 74), .mv (.t 12), none, [], false⟩,
                                ⟨(some 75), .bin .geq (.t 74) (.k (.int .i64 0)), none, [], false⟩,
                                ⟨(some 76), .mv (.t 75), none, [], false⟩,
                                ⟨(some 77), .mv (.t 12), (some (76, true)), [], false⟩,
                                ⟨(some 78), .bin .lss (.t 77) (.k (.int .i64 1073741824)), (some (76, true)), [], false⟩,
                                ⟨(some 79), .pick (.t 76) (.t 78) (.k (.bool false)), none, [], false⟩,
                                ⟨(some 80), .mv (.t 79), none, [], false⟩,
                                ⟨(some 81), .mv (.t 6), (some (80, true)), [], false⟩,
                                ⟨(some 82), .mv (.t 11), (some (80, true)), [], false⟩,
                                ⟨(some 83), .call (.k (.fn 54 [])) [(.t 81), (.t 82)], (some (80, true)), [], false⟩,
                                ⟨(some 84), .un .not (.t 83), (some (80, true)), [], false⟩,
                                ⟨(some 85), .pick (.t 80) (.t 84) (.k (.bool false)), none, [], false⟩])
                              (.cond (.t 85) (.seq (.reg [
                                  ⟨(some 2), .mv (.k (.bool false)), none, [], false⟩])
                                (.ret))
                               (.skip)))))
                           (.reg [
                             ⟨(some 86), .bin .add (.t 69) (.k (.int .i64 1)), none, [], false⟩,
                             ⟨(some 69), .mv (.t 86), none, [], false⟩])))))))
                     (.skip)))))
                 (.reg [
                   ⟨(some 87), .bin .add (.t 45) (.k (.int .i64 1)), none, [], false⟩,
                   ⟨(some 45), .mv (.t 87), none, [], false⟩])))))))
           (.seq (.reg [
              ⟨(some 88), .mv (.t 8), none, [], false⟩,
              ⟨(some 89), .bin .eql (.t 88) (.k (.int .i64 0)), none, [], false⟩,
              ⟨(some 2), .mv (.t 89), none, [], false⟩])
            (.ret)))))))))
theorem ok87 : cFunc Try.prog Try.f87 = some c87 := by kernel_rfl
theorem ok49 : cFunc Try.prog Try.f49 = some c49 := by kernel_rfl
theorem ok89 : cFunc Try.prog Try.f89 = some c89 := by kernel_rfl
theorem ok116 : cFunc Try.prog Try.f116 = some c116 := by kernel_rfl
theorem ok88 : cFunc Try.prog Try.f88 = some c88 := by kernel_rfl
theorem ok117 : cFunc Try.prog Try.f117 = some c117 := by kernel_rfl
theorem ok90 : cFunc Try.prog Try.f90 = some c90 := by kernel_rfl
theorem ok50 : cFunc Try.prog Try.f50 = some c50 := by kernel_rfl
theorem ok86 : cFunc Try.prog Try.f86 = some c86 := by kernel_rfl
theorem ok46 : cFunc Try.prog Try.f46 = some c46 := by kernel_rfl
theorem ok47 : cFunc Try.prog Try.f47 = some c47 := by kernel_rfl
theorem ok48 : cFunc Try.prog Try.f48 = some c48 := by kernel_rfl
theorem ok20 : cFunc Try.prog Try.f20 = some c20 := by kernel_rfl
theorem ok13 : cFunc Try.prog Try.f13 = some c13 := by kernel_rfl
theorem ok91 : cFunc Try.prog Try.f91 = some c91 := by kernel_rfl
theorem ok51 : cFunc Try.prog Try.f51 = some c51 := by kernel_rfl
theorem ok52 : cFunc Try.prog Try.f52 = some c52 := by kernel_rfl
theorem ok53 : cFunc Try.prog Try.f53 = some c53 := by kernel_rfl
theorem ok92 : cFunc Try.prog Try.f92 = some c92 := by kernel_rfl
theorem ok54 : cFunc Try.prog Try.f54 = some c54 := by kernel_rfl
theorem ok14 : cFunc Try.prog Try.f14 = some c14 := by kernel_rfl
end Go.Proofs.Ytpehhlfbnkakpaa.CodeAll
