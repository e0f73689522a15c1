/- The code of functions of the program, for the abstract machine; each is what the function is turned into. No condition. -/
import Derived.Test.YtpehhlfbnkakpaaEvaO
import Derived.Test.YtpehhlfbnkakpaaChecked
import Derived.KernelRfl
namespace Go.Proofs.Ytpehhlfbnkakpaa.CodeAll
open Go Go.Proofs.Ytpehhlfbnkakpaa.Eva
/-- skyway/skywayref1.Double -/
def c26 : CF where
  np := 2
  nt := 78
  res := [.t 4]
  code := .seq (.reg [
      ⟨(some 4), .mv (.k (.int .u64 0)), none, [], false⟩])
    (.seq (.seq (.reg [
        ⟨(some 12), .mv (.t 0), none, [], false⟩,
        ⟨(some 13), .bin .eql (.t 12) (.k (.int .i64 0)), none, [], false⟩])
      (.cond (.t 13) (.seq (.reg [
          ⟨(some 4), .mv (.k (.int .u64 0)), none, [], false⟩])
        (.ret))
       (.skip)))
     (.seq (.reg [
        ⟨(some 5), .mv (.k (.int .u64 0)), none, [], false⟩])
      (.seq (.reg [
         ⟨(some 14), .mv (.t 0), none, [], false⟩,
         ⟨(some 15), .cvi .u64 (.t 14), none, [], false⟩,
         ⟨(some 6), .mv (.t 15), none, [], false⟩])
       (.seq (.seq (.reg [
           ⟨(some 16), .mv (.t 0), none, [], false⟩,
           ⟨(some 17), .bin .lss (.t 16) (.k (.int .i64 0)), none, [], false⟩])
         (.cond (.t 17) (.reg [
            ⟨(some 18), .mv (.t 6), none, [], false⟩,
            ⟨(some 19), .un .neg (.t 18), none, [], false⟩,
            ⟨(some 5), .mv (.k (.int .u64 9223372036854775808)), none, [], false⟩,
            ⟨(some 6), .mv (.t 19), none, [], false⟩])
          (.skip)))
        (.seq (.reg [
           ⟨(some 7), .mv (.k (.int .i64 63)), none, [], false⟩])
         (.seq (.blk 0 (.loop (.seq (.seq (.reg [
                ⟨(some 20), .mv (.t 6), none, [], false⟩,
                ⟨(some 21), .mv (.t 7), none, [], false⟩,
                ⟨(some 22), .bin .shr (.t 20) (.t 21), none, [], false⟩,
                ⟨(some 23), .bin .eql (.t 22) (.k (.int .u64 0)), none, [], false⟩])
              (.cond (.t 23) (.skip)
               (.exit 0)))
             (.blk 1 (.reg [
                ⟨(some 24), .mv (.t 7), none, [], false⟩,
                ⟨(some 25), .bin .sub (.t 24) (.k (.int .i64 1)), none, [], false⟩,
                ⟨(some 7), .mv (.t 25), none, [], false⟩])))))
          (.seq (.reg [
             ⟨(some 26), .mv (.t 7), none, [], false⟩,
             ⟨(some 27), .mv (.t 1), none, [], false⟩,
             ⟨(some 28), .bin .sub (.t 26) (.t 27), none, [], false⟩,
             ⟨(some 8), .mv (.t 28), none, [], false⟩])
           (.seq (.seq (.reg [
               ⟨(some 29), .mv (.t 7), none, [], false⟩,
               ⟨(some 30), .bin .leq (.t 29) (.k (.int .i64 52)), none, [], false⟩])
             (.cond (.t 30) (.reg [
                ⟨(some 31), .mv (.t 6), none, [], false⟩,
                ⟨(some 32), .mv (.t 7), none, [], false⟩,
                ⟨(some 33), .bin .sub (.k (.int .i64 52)) (.t 32), none, [], false⟩,
                ⟨(some 34), .bin .shl (.t 31) (.t 33), none, [], false⟩,
                ⟨(some 6), .mv (.t 34), none, [], false⟩])
              (.seq (.reg [
                 ⟨(some 35), .mv (.t 7), none, [], false⟩,
                 ⟨(some 36), .bin .sub (.t 35) (.k (.int .i64 52)), none, [], false⟩,
                 ⟨(some 9), .mv (.t 36), none, [], false⟩])
               (.seq (.reg [
                  ⟨(some 37), .mv (.t 6), none, [], false⟩,
                  ⟨(some 38), .mv (.t 9), none, [], false⟩,
                  ⟨(some 39), .bin .shl (.k (.int .u64 1)) (.t 38), none, [], false⟩,
                  ⟨(some 40), .bin .sub (.t 39) (.k (.int .u64 1)), none, [], false⟩,
                  ⟨(some 41), .bin .and (.t 37) (.t 40), none, [], false⟩,
                  ⟨(some 42), .mv (.t 9), none, [], false⟩,
                  ⟨(some 43), .bin .sub (.t 42) (.k (.int .i64 1)), none, [], false⟩,
                  ⟨(some 44), .bin .shl (.k (.int .u64 1)) (.t 43), none, [], false⟩,
                  ⟨(some 10), .mv (.t 41), none, [], false⟩,
                  ⟨(some 11), .mv (.t 44), none, [], false⟩])
                (.seq (.reg [
                   ⟨(some 45), .mv (.t 6), none, [], false⟩,
                   ⟨(some 46), .mv (.t 9), none, [], false⟩,
                   ⟨(some 47), .bin .shr (.t 45) (.t 46), none, [], false⟩,
                   ⟨(some 6), .mv (.t 47), none, [], false⟩])
                 (.seq (.seq (.reg [
                     ⟨(some 48), .mv (.t 10), none, [], false⟩,
                     ⟨(some 49), .mv (.t 11), none, [], false⟩,
                     ⟨(some 50), .bin .gtr (.t 48) (.t 49), none, [], false⟩,
                     ⟨(some 51), .mv (.t 50), none, [], false⟩,
                     ⟨(some 52), .mv (.t 10), (some (51, false)), [], false⟩,
                     ⟨(some 53), .mv (.t 11), (some (51, false)), [], false⟩,
                     ⟨(some 54), .bin .eql (.t 52) (.t 53), (some (51, false)), [], false⟩,
                     ⟨(some 55), .mv (.t 54), (some (51, false)), [], false⟩,
                     ⟨(some 56), .mv (.t 6), (some (55, true)), [], false⟩,
                     ⟨(some 57), .bin .rem (.t 56) (.k (.int .u64 2)), (some (55, true)), [], false⟩,
                     ⟨(some 58), .bin .eql (.t 57) (.k (.int .u64 1)), (some (55, true)), [], false⟩,
                     ⟨(some 59), .pick (.t 55) (.t 58) (.k (.bool false)), (some (51, false)), [], false⟩,
                     ⟨(some 60), .pick (.t 51) (.k (.bool true)) (.t 59), none, [], false⟩])
                   (.cond (.t 60) (.reg [
                      ⟨(some 61), .mv (.t 6), none, [], false⟩,
                      ⟨(some 62), .bin .add (.t 61) (.k (.int .u64 1)), none, [], false⟩,
                      ⟨(some 6), .mv (.t 62), none, [], false⟩])
                    (.skip)))
                  (.seq (.reg [
                     ⟨(some 63), .mv (.t 6), none, [], false⟩,
                     ⟨(some 64), .bin .eql (.t 63) (.k (.int .u64 9007199254740992)), none, [], false⟩])
                   (.cond (.t 64) (.reg [
                      ⟨(some 65), .mv (.t 6), none, [], false⟩,
                      ⟨(some 66), .bin .quo (.t 65) (.k (.int .u64 2)), none, [], false⟩,
                      ⟨(some 67), .mv (.t 8), none, [], false⟩,
                      ⟨(some 68), .bin .add (.t 67) (.k (.int .i64 1)), none, [], false⟩,
                      ⟨(some 6), .mv (.t 66), none, [], false⟩,
                      ⟨(some 8), .mv (.t 68), none, [], false⟩])
                    (.skip)))))))))
            (.seq (.reg [
               ⟨(some 69), .mv (.t 5), none, [], false⟩,
               ⟨(some 70), .mv (.t 8), none, [], false⟩,
               ⟨(some 71), .bin .add (.t 70) (.k (.int .i64 1023)), none, [], false⟩,
               ⟨(some 72), .cvi .u64 (.t 71), none, [], false⟩,
               ⟨(some 73), .bin .shl (.t 72) (.k (.int .u64 52)), none, [], false⟩,
               ⟨(some 74), .bin .or (.t 69) (.t 73), none, [], false⟩,
               ⟨(some 75), .mv (.t 6), none, [], false⟩,
               ⟨(some 76), .bin .and (.t 75) (.k (.int .u64 4503599627370495)), none, [], false⟩,
               ⟨(some 77), .bin .or (.t 74) (.t 76), none, [], false⟩,
               ⟨(some 4), .mv (.t 77), none, [], false⟩])
             (.ret))))))))))
/-- skyway/skywaylaw1.BitsNearest -/
def c6 : CF where
  np := 2
  nt := 36
  res := [.t 4]
  code := .seq (.reg [
      ⟨(some 4), .mv (.k (.bool false)), none, [], false⟩])
    (.seq (.seq (.reg [
        ⟨(some 7), .call (.k (.fn 24 [])) [], none, [], false⟩,
        ⟨(some 8), .un .not (.t 7), none, [], false⟩])
      (.cond (.t 8) (.seq (.reg [
          ⟨(some 4), .mv (.k (.bool false)), none, [], false⟩])
        (.ret))
       (.skip)))
     (.seq (.reg [
        ⟨(some 10), .mv (.t 0), none, [], false⟩,
        ⟨(some 11), .mv (.t 1), none, [], false⟩,
        ⟨(some 12), .call (.k (.fn 25 [])) [(.t 10), (.t 11)], none, [], false⟩,
        ⟨(some 9), .mv (.t 12), none, [], false⟩,
        ⟨(some 13), .ext (.t 9) 0, none, [], false⟩,
        ⟨(some 14), .ext (.t 9) 1, none, [], false⟩,
        ⟨(some 5), .mv (.t 13), none, [], false⟩,
        ⟨(some 6), .mv (.t 14), none, [], false⟩])
      (.seq (.seq (.reg [
          ⟨(some 15), .mv (.t 1), none, [], false⟩,
          ⟨(some 16), .bin .lss (.t 15) (.k (.int .i64 0)), none, [], false⟩,
          ⟨(some 17), .mv (.t 16), none, [], false⟩,
          ⟨(some 18), .mv (.t 1), (some (17, false)), [], false⟩,
          ⟨(some 19), .bin .gtr (.t 18) (.k (.int .i64 60)), (some (17, false)), [], false⟩,
          ⟨(some 20), .pick (.t 17) (.k (.bool true)) (.t 19), none, [], false⟩])
        (.cond (.t 20) (.seq (.reg [
            ⟨(some 21), .mv (.t 6), none, [], false⟩,
            ⟨(some 22), .bin .eql (.t 21) (.k (.int .i64 4)), none, [], false⟩,
            ⟨(some 23), .mv (.t 22), none, [], false⟩,
            ⟨(some 24), .mv (.t 5), (some (23, true)), [], false⟩,
            ⟨(some 25), .bin .eql (.t 24) (.k (.int .u64 0)), (some (23, true)), [], false⟩,
            ⟨(some 26), .pick (.t 23) (.t 25) (.k (.bool false)), none, [], false⟩,
            ⟨(some 4), .mv (.t 26), none, [], false⟩])
          (.ret))
         (.skip)))
       (.seq (.reg [
          ⟨(some 27), .mv (.t 6), none, [], false⟩,
          ⟨(some 28), .bin .eql (.t 27) (.k (.int .i64 0)), none, [], false⟩,
          ⟨(some 29), .mv (.t 28), none, [], false⟩,
          ⟨(some 30), .mv (.t 5), (some (29, true)), [], false⟩,
          ⟨(some 31), .mv (.t 0), (some (29, true)), [], false⟩,
          ⟨(some 32), .mv (.t 1), (some (29, true)), [], false⟩,
          ⟨(some 33), .call (.k (.fn 26 [])) [(.t 31), (.t 32)], (some (29, true)), [], false⟩,
          ⟨(some 34), .bin .eql (.t 30) (.t 33), (some (29, true)), [], false⟩,
          ⟨(some 35), .pick (.t 29) (.t 34) (.k (.bool false)), none, [], false⟩,
          ⟨(some 4), .mv (.t 35), none, [], false⟩])
        (.ret)))))
/-- skyway/alert.All -/
def c27 : CF where
  np := 5
  nt := 83
  res := [.t 10, .t 11]
  code := .seq (.reg [
      ⟨(some 6), .box (.t 1), none, [], false⟩,
      ⟨(some 10), .mv (.k (.sl true 0 0 0 0 0)), none, [], false⟩,
      ⟨(some 11), .mv (.k (.int .i64 0)), none, [], false⟩])
    (.seq (.seq (.reg [
        ⟨(some 19), .mv (.t 0), none, [], false⟩,
        ⟨(some 20), .lenv false (.t 19), none, [], false⟩,
        ⟨(some 21), .bin .gtr (.t 20) (.k (.int .i64 32)), none, [], false⟩])
      (.cond (.t 21) (.seq (.reg [
          ⟨(some 10), .mv (.k (.sl true 0 0 0 0 0)), none, [], false⟩,
          ⟨(some 11), .mv (.k (.int .i64 2)), none, [], false⟩])
        (.ret))
       (.skip)))
     (.seq (.seq (.reg [
         ⟨(some 22), .mv (.t 0), none, [], false⟩,
         ⟨(some 23), .lenv false (.t 22), none, [], false⟩,
         ⟨(some 24), .bin .eql (.t 23) (.k (.int .i64 1)), none, [], false⟩])
       (.cond (.t 24) (.seq (.seq (.reg [
            ⟨(some 25), .mv (.t 0), none, [], false⟩,
            ⟨(some 26), .iad 20 (.t 25) (.k (.int .i64 0)), none, [], false⟩,
            ⟨(some 27), .ldn 20 (.t 26), none, [], false⟩,
            ⟨(some 28), .mv (.t 0), none, [], false⟩,
            ⟨(some 29), .iad 20 (.t 28) (.k (.int .i64 0)), none, [], false⟩,
            ⟨(some 30), .ldn 20 (.t 29), none, [], false⟩,
            ⟨(some 31), .ldn 2 (.t 6), none, [], false⟩,
            ⟨(some 32), .mv (.t 2), none, [], false⟩,
            ⟨(some 33), .mv (.t 3), none, [], false⟩,
            ⟨(some 34), .mv (.t 4), none, [], false⟩,
            ⟨(some 35), .call (.k (.fn 60 [])) [(.t 27), (.t 30), (.t 31), (.t 32), (.t 33), (.t 34)], none, [], false⟩,
            ⟨(some 12), .mv (.t 35), none, [], false⟩])
          (.seq (.reg [
             ⟨(some 36), .mv (.t 12), none, [], false⟩,
             ⟨(some 37), .bin .neq (.t 36) (.k (.int .i64 12)), none, [], false⟩])
           (.cond (.t 37) (.seq (.reg [
               ⟨(some 38), .mv (.t 12), none, [], false⟩,
               ⟨(some 10), .mv (.k (.sl true 0 0 0 0 0)), none, [], false⟩,
               ⟨(some 11), .mv (.t 38), none, [], false⟩])
             (.ret))
            (.skip))))
         (.seq (.reg [
            ⟨(some 10), .mv (.k (.sl true 0 0 0 0 0)), none, [], false⟩,
            ⟨(some 11), .mv (.k (.int .i64 0)), none, [], false⟩])
          (.ret)))
        (.skip)))
      (.seq (.reg [
         ⟨(some 13), .mv (.k (.sl true 0 0 0 0 0)), none, [], false⟩])
       (.seq (.seq (.reg [
           ⟨(some 39), .mv (.t 0), none, [], false⟩,
           ⟨(some 40), .lenv false (.t 39), none, [], false⟩,
           ⟨(some 41), .mv (.k (.int .i64 0)), none, [], false⟩])
         (.blk 0 (.loop (.seq (.reg [
              ⟨(some 42), .bin .lss (.t 41) (.t 40), none, [], false⟩])
            (.seq (.cond (.t 42) (.skip)
              (.exit 0))
             (.seq (.blk 1 (.seq (.reg [
                  ⟨(some 43), .mv (.t 41), none, [], false⟩,
                  ⟨(some 44), .iad 20 (.t 39) (.t 41), none, [], false⟩,
                  ⟨(some 45), .ldn 20 (.t 44), none, [], false⟩,
                  ⟨(some 15), .new [.int .i64 0, .int .i64 0, .int .i64 0, .int .i64 0, .int .i64 0, .int .i64 0, .int .i64 0, .int .i64 0, .int .i64 0, .int .i64 0, .int .i64 0, .int .i64 0, .int .i64 0, .int .i64 0, .int .i64 0, .int .i64 0, .int .i64 0, .int .i64 0, .int .i64 0, .int .i64 0], none, [], false⟩,
                  ⟨(some 14), .mv (.t 43), none, [], false⟩,
                  ⟨none, .st 20 (.t 15) (.t 45), none, [], false⟩])
                (.seq (.reg [
                   ⟨(some 46), .mv (.t 14), none, [], false⟩,
                   ⟨(some 47), .bin .add (.t 46) (.k (.int .i64 1)), none, [], false⟩,
                   ⟨(some 16), .mv (.t 47), none, [], false⟩])
                 (.blk 2 (.loop (.seq (.seq (.reg [
                       ⟨(some 48), .mv (.t 16), none, [], false⟩,
                       ⟨(some 49), .mv (.t 0), none, [], false⟩,
                       ⟨(some 50), .lenv false (.t 49), none, [], false⟩,
                       ⟨(some 51), .bin .lss (.t 48) (.t 50), none, [], false⟩])
                     (.cond (.t 51) (.skip)
                      (.exit 2)))
                    (.seq (.blk 3 (.seq (.reg [
                         ⟨(some 55), .ldn 20 (.t 15), none, [], false⟩,
                         ⟨(some 56), .mv (.t 0), none, [], false⟩,
                         ⟨(some 57), .mv (.t 16), none, [], false⟩,
                         ⟨(some 58), .iad 20 (.t 56) (.t 57), none, [], false⟩,
                         ⟨(some 59), .ldn 20 (.t 58), none, [], false⟩,
                         ⟨(some 60), .ldn 2 (.t 6), none, [], false⟩,
                         ⟨(some 61), .mv (.t 2), none, [], false⟩,
                         ⟨(some 62), .mv (.t 3), none, [], false⟩,
                         ⟨(some 63), .mv (.t 4), none, [], false⟩,
                         ⟨(some 64), .call (.k (.fn 21 [])) [(.t 55), (.t 59), (.t 60), (.t 61), (.t 62), (.t 63)], none, [], false⟩,
                         ⟨(some 54), .mv (.t 64), none, [], false⟩,
                         ⟨(some 65), .ext (.t 54) 0, none, [], false⟩,
                         ⟨(some 66), .ext (.t 54) 1, none, [], false⟩,
                         ⟨(some 17), .mv (.t 65), none, [], false⟩,
                         ⟨(some 18), .mv (.t 66), none, [], false⟩])
                       (.seq (.reg [
                          ⟨(some 67), .mv (.t 18), none, [], false⟩])
                        (.blk 4 (.seq (.reg [
                            ⟨(some 70), .bin .eql (.t 67) (.k (.int .i64 0)), none, [], false⟩,
                            ⟨(some 69), .mv (.t 70), none, [], false⟩])
                          (.cond (.t 69) (.reg [
                             ⟨(some 71), .mv (.t 13), none, [], false⟩,
                             ⟨(some 72), .mv (.t 14), none, [], false⟩,
                             ⟨(some 73), .mv (.t 16), none, [], false⟩,
                             ⟨(some 74), .mv (.t 17), none, [], false⟩,
                             ⟨(some 75), .mk [.int .i64 0, .int .i64 0, .int .i64 0] [(0, 1, (.t 72)), (1, 1, (.t 73)), (2, 1, (.t 74))], none, [], false⟩,
                             ⟨(some 76), .mks [.int .i64 0, .int .i64 0, .int .i64 0] 3 1 [(0, 3, (.t 75))], none, [], false⟩,
                             ⟨(some 77), .app 3 24 (.t 71) (.t 76), none, [], false⟩,
                             ⟨(some 13), .mv (.t 77), none, [], false⟩])
                           (.seq (.seq (.reg [
                               ⟨(some 79), .bin .eql (.t 67) (.k (.int .i64 8)), none, [], false⟩,
                               ⟨(some 78), .mv (.t 79), none, [], false⟩])
                             (.cond (.t 78) (.skip)
                              (.reg [
                                ⟨(some 80), .bin .eql (.t 67) (.k (.int .i64 12)), none, [], false⟩,
                                ⟨(some 78), .mv (.t 80), none, [], false⟩])))
                            (.cond (.t 78) (.skip)
                             (.seq (.reg [
                                ⟨(some 68), .mv (.t 18), none, [], false⟩,
                                ⟨(some 10), .mv (.k (.sl true 0 0 0 0 0)), none, [], false⟩,
                                ⟨(some 11), .mv (.t 68), none, [], false⟩])
                              (.ret))))))))))
                     (.reg [
                       ⟨(some 52), .mv (.t 16), none, [], false⟩,
                       ⟨(some 53), .bin .add (.t 52) (.k (.int .i64 1)), none, [], false⟩,
                       ⟨(some 16), .mv (.t 53), none, [], false⟩]))))))))
              (.reg [
                ⟨(some 81), .bin .add (.t 41) (.k (.int .i64 1)), none, [], false⟩,
                ⟨(some 41), .mv (.t 81), none, [], false⟩])))))))
        (.seq (.reg [
           ⟨(some 82), .mv (.t 13), none, [], false⟩,
           ⟨(some 10), .mv (.t 82), none, [], false⟩,
           ⟨(some 11), .mv (.k (.int .i64 0)), none, [], false⟩])
         (.ret))))))
/-- skyway/skywaykeep2.AlertPairs -/
def c7 : CF where
  np := 3
  nt := 108
  res := [.t 6]
  code := .seq (.reg [
      ⟨(some 4), .box (.t 1), none, [], false⟩,
      ⟨(some 6), .mv (.k (.bool false)), none, [], false⟩])
    (.seq (.reg [
       ⟨(some 17), .mk [.int .i64 0, .int .i64 0] [(0, 1, (.k (.int .i64 10))), (1, 1, (.k (.int .i64 1000)))], none, [], false⟩,
       ⟨(some 7), .new [.int .i64 0, .int .i64 0], none, [], false⟩,
       ⟨none, .st 2 (.t 7) (.t 17), none, [], false⟩])
     (.seq (.seq (.reg [
         ⟨(some 19), .mksl [.int .i64 0, .int .i64 0, .int .i64 0, .int .i64 0, .int .i64 0, .int .i64 0, .int .i64 0, .int .i64 0, .int .i64 0, .int .i64 0, .int .i64 0, .int .i64 0, .int .i64 0, .int .i64 0, .int .i64 0, .int .i64 0, .int .i64 0, .int .i64 0, .int .i64 0, .int .i64 0] 160 (.k (.int .i64 2)) (.k (.int .i64 2)), none, [], false⟩,
         ⟨(some 20), .ldn 2 (.t 7), none, [], false⟩,
         ⟨(some 21), .call (.k (.fn 27 [])) [(.t 19), (.t 20), (.k (.int .i64 1)), (.k (.int .i64 0)), (.k (.int .i64 0))], none, [], false⟩,
         ⟨(some 18), .mv (.t 21), none, [], false⟩,
         ⟨(some 22), .ext (.t 18) 0, none, [], false⟩,
         ⟨(some 23), .ext (.t 18) 1, none, [], false⟩,
         ⟨(some 8), .mv (.t 22), none, [], false⟩,
         ⟨(some 9), .mv (.t 23), none, [], false⟩])
       (.seq (.reg [
          ⟨(some 24), .mv (.t 9), none, [], false⟩,
          ⟨(some 25), .bin .neq (.t 24) (.k (.int .i64 0)), none, [], false⟩,
          ⟨(some 26), .mv (.t 25), none, [], false⟩,
          ⟨(some 27), .mv (.t 8), (some (26, false)), [], false⟩,
          ⟨(some 28), .lenv false (.t 27), (some (26, false)), [], false⟩,
          ⟨(some 29), .bin .neq (.t 28) (.k (.int .i64 1)), (some (26, false)), [], false⟩,
          ⟨(some 30), .pick (.t 26) (.k (.bool true)) (.t 29), none, [], false⟩,
          ⟨(some 31), .mv (.t 30), none, [], false⟩,
          ⟨(some 32), .mv (.t 8), (some (31, false)), [], false⟩,
          ⟨(some 33), .iad 3 (.t 32) (.k (.int .i64 0)), (some (31, false)), [], false⟩,
          ⟨(some 34), .ldn 3 (.t 33), (some (31, false)), [], false⟩,
          ⟨(some 35), .mk [.int .i64 0, .int .i64 0, .int .i64 0] [(0, 1, (.k (.int .i64 0))), (1, 1, (.k (.int .i64 1)))], (some (31, false)), [], false⟩,
          ⟨(some 36), .eqs true (some [.i, .i, .i]) (.t 34) (.t 35), (some (31, false)), [], false⟩,
          ⟨(some 37), .pick (.t 31) (.k (.bool true)) (.t 36), none, [], false⟩])
        (.cond (.t 37) (.seq (.reg [
            ⟨(some 6), .mv (.k (.bool false)), none, [], false⟩])
          (.ret))
         (.skip))))
      (.seq (.reg [
         ⟨(some 38), .mv (.t 0), none, [], false⟩,
         ⟨(some 39), .mv (.t 0), none, [], false⟩,
         ⟨(some 40), .lenv false (.t 39), none, [], false⟩,
         ⟨(some 41), .mnx false (.t 40) [(.k (.int .i64 4))], none, [], false⟩,
         ⟨(some 42), .slc 20 (.t 38) none (some (.t 41)), none, [], false⟩,
         ⟨(some 43), .mv (.t 2), none, [], false⟩,
         ⟨(some 44), .call (.k (.fn 20 [])) [(.t 43), (.k (.int .i64 0)), (.k (.int .i64 20))], none, [], false⟩,
         ⟨(some 0), .mv (.t 42), none, [], false⟩,
         ⟨(some 2), .mv (.t 44), none, [], false⟩])
       (.seq (.reg [
          ⟨(some 46), .mv (.t 0), none, [], false⟩,
          ⟨(some 47), .ldn 2 (.t 4), none, [], false⟩,
          ⟨(some 48), .mv (.t 2), none, [], false⟩,
          ⟨(some 49), .call (.k (.fn 27 [])) [(.t 46), (.t 47), (.t 48), (.k (.int .i64 1)), (.k (.int .i64 5))], none, [], false⟩,
          ⟨(some 45), .mv (.t 49), none, [], false⟩,
          ⟨(some 50), .ext (.t 45) 0, none, [], false⟩,
          ⟨(some 51), .ext (.t 45) 1, none, [], false⟩,
          ⟨(some 10), .mv (.t 50), none, [], false⟩,
          ⟨(some 11), .mv (.t 51), none, [], false⟩])
        (.seq (.seq (.reg [
            ⟨(some 52), .mv (.t 11), none, [], false⟩,
            ⟨(some 53), .bin .neq (.t 52) (.k (.int .i64 0)), none, [], false⟩])
          (.cond (.t 53) (.seq (.reg [
              ⟨(some 54), .mv (.t 10), none, [], false⟩,
              ⟨(some 55), .lenv false (.t 54), none, [], false⟩,
              ⟨(some 56), .bin .eql (.t 55) (.k (.int .i64 0)), none, [], false⟩,
              ⟨(some 6), .mv (.t 56), none, [], false⟩])
            (.ret))
           (.skip)))
         (.seq (.reg [
            ⟨(some 12), .mv (.k (.int .i64 0)), none, [], false⟩])
          (.seq (.seq (.reg [
              ⟨(some 57), .mv (.t 0), none, [], false⟩,
              ⟨(some 58), .lenv false (.t 57), none, [], false⟩,
              ⟨(some 59), .mv (.k (.int .i64 0)), none, [], false⟩])
            (.blk 0 (.loop (.seq (.reg [
                 ⟨(some 60), .bin .lss (.t 59) (.t 58), none, [], false⟩])
               (.seq (.cond (.t 60) (.skip)
                 (.exit 0))
                (.seq (.blk 1 (.seq (.reg [
                     ⟨(some 61), .mv (.t 59), none, [], false⟩,
                     ⟨(some 13), .mv (.t 61), none, [], false⟩])
                   (.seq (.reg [
                      ⟨(some 62), .mv (.t 13), none, [], false⟩,
                      ⟨(some 63), .bin .add (.t 62) (.k (.int .i64 1)), none, [], false⟩,
                      ⟨(some 14), .mv (.t 63), none, [], false⟩])
                    (.blk 2 (.loop (.seq (.seq (.reg [
                          ⟨(some 64), .mv (.t 14), none, [], false⟩,
                          ⟨(some 65), .mv (.t 0), none, [], false⟩,
                          ⟨(some 66), .lenv false (.t 65), none, [], false⟩,
                          ⟨(some 67), .bin .lss (.t 64) (.t 66), none, [], false⟩])
                        (.cond (.t 67) (.skip)
                         (.exit 2)))
                       (.seq (.blk 3 (.seq (.reg [
                            ⟨(some 71), .mv (.t 0), none, [], false⟩,
                            ⟨(some 72), .mv (.t 13), none, [], false⟩,
                            ⟨(some 73), .iad 20 (.t 71) (.t 72), none, [], false⟩,
                            ⟨(some 74), .ldn 20 (.t 73), none, [], false⟩,
                            ⟨(some 75), .mv (.t 0), none, [], false⟩,
                            ⟨(some 76), .mv (.t 14), none, [], false⟩,
                            ⟨(some 77), .iad 20 (.t 75) (.t 76), none, [], false⟩,
                            ⟨(some 78), .ldn 20 (.t 77), none, [], false⟩,
                            ⟨(some 79), .ldn 2 (.t 4), none, [], false⟩,
                            ⟨(some 80), .mv (.t 2), none, [], false⟩,
                            ⟨(some 81), .call (.k (.fn 21 [])) [(.t 74), (.t 78), (.t 79), (.t 80), (.k (.int .i64 1)), (.k (.int .i64 5))], none, [], false⟩,
                            ⟨(some 70), .mv (.t 81), none, [], false⟩,
                            ⟨(some 82), .ext (.t 70) 0, none, [], false⟩,
                            ⟨(some 83), .ext (.t 70) 1, none, [], false⟩,
                            ⟨(some 15), .mv (.t 82), none, [], false⟩,
                            ⟨(some 16), .mv (.t 83), none, [], false⟩])
                          (.seq (.reg [
                             ⟨(some 84), .mv (.t 16), none, [], false⟩,
                             ⟨(some 85), .bin .eql (.t 84) (.k (.int .i64 0)), none, [], false⟩])
                           (.cond (.t 85) (.seq (.seq (.reg [
                                ⟨(some 86), .mv (.t 12), none, [], false⟩,
                                ⟨(some 87), .mv (.t 10), none, [], false⟩,
                                ⟨(some 88), .lenv false (.t 87), none, [], false⟩,
                                ⟨(some 89), .bin .eql (.t 86) (.t 88), none, [], false⟩,
                                ⟨(some 90), .mv (.t 89), none, [], false⟩,
                                ⟨(some 91), .mv (.t 10), (some (90, false)), [], false⟩,
                                ⟨(some 92), .mv (.t 12), (some (90, false)), [], false⟩,
                                ⟨(some 93), .iad 3 (.t 91) (.t 92), (some (90, false)), [], false⟩,
                                ⟨(some 94), .ldn 3 (.t 93), (some (90, false)), [], false⟩,
                                ⟨(some 95), .mv (.t 13), (some (90, false)), [], false⟩,
                                ⟨(some 96), .mv (.t 14), (some (90, false)), [], false⟩,
                                ⟨(some 97), .mv (.t 15), (some (90, false)), [], false⟩,
                                ⟨(some 98), .mk [.int .i64 0, .int .i64 0, .int .i64 0] [(0, 1, (.t 95)), (1, 1, (.t 96)), (2, 1, (.t 97))], (some (90, false)), [], false⟩,
                                ⟨(some 99), .eqs true (some [.i, .i, .i]) (.t 94) (.t 98), (some (90, false)), [], false⟩,
                                ⟨(some 100), .pick (.t 90) (.k (.bool true)) (.t 99), none, [], false⟩])
                              (.cond (.t 100) (.seq (.reg [
                                  ⟨(some 6), .mv (.k (.bool false)), none, [], false⟩])
                                (.ret))
                               (.skip)))
                             (.reg [
                               ⟨(some 101), .mv (.t 12), none, [], false⟩,
                               ⟨(some 102), .bin .add (.t 101) (.k (.int .i64 1)), none, [], false⟩,
                               ⟨(some 12), .mv (.t 102), none, [], false⟩]))
                            (.skip)))))
                        (.reg [
                          ⟨(some 68), .mv (.t 14), none, [], false⟩,
                          ⟨(some 69), .bin .add (.t 68) (.k (.int .i64 1)), none, [], false⟩,
                          ⟨(some 14), .mv (.t 69), none, [], false⟩]))))))))
                 (.reg [
                   ⟨(some 103), .bin .add (.t 59) (.k (.int .i64 1)), none, [], false⟩,
                   ⟨(some 59), .mv (.t 103), none, [], false⟩])))))))
           (.seq (.reg [
              ⟨(some 104), .mv (.t 12), none, [], false⟩,
              ⟨(some 105), .mv (.t 10), none, [], false⟩,
              ⟨(some 106), .lenv false (.t 105), none, [], false⟩,
              ⟨(some 107), .bin .eql (.t 104) (.t 106), none, [], false⟩,
              ⟨(some 6), .mv (.t 107), none, [], false⟩])
            (.ret)))))))))
/-- skyway/fuse.square -/
def c71 : CF where
  np := 2
  nt := 28
  res := [.t 4]
  code := .seq (.reg [
      ⟨(some 2), .box (.t 0), none, [], false⟩,
      ⟨(some 3), .box (.t 1), none, [], false⟩,
      ⟨(some 4), .mv (.k (.int .i64 0)), none, [], false⟩])
    (.seq (.reg [
       ⟨(some 5), .fad 0 (.t 2), none, [], false⟩,
       ⟨(some 6), .ld1 (.t 5), none, [], false⟩,
       ⟨(some 7), .fad 0 (.t 3), none, [], false⟩,
       ⟨(some 8), .ld1 (.t 7), none, [], false⟩,
       ⟨(some 9), .bin .sub (.t 6) (.t 8), none, [], false⟩,
       ⟨(some 10), .fad 0 (.t 2), none, [], false⟩,
       ⟨(some 11), .ld1 (.t 10), none, [], false⟩,
       ⟨(some 12), .fad 0 (.t 3), none, [], false⟩,
       ⟨(some 13), .ld1 (.t 12), none, [], false⟩,
       ⟨(some 14), .bin .sub (.t 11) (.t 13), none, [], false⟩,
       ⟨(some 15), .bin .mul (.t 9) (.t 14), none, [], false⟩,
       ⟨(some 16), .fad 1 (.t 2), none, [], false⟩,
       ⟨(some 17), .ld1 (.t 16), none, [], false⟩,
       ⟨(some 18), .fad 1 (.t 3), none, [], false⟩,
       ⟨(some 19), .ld1 (.t 18), none, [], false⟩,
       ⟨(some 20), .bin .sub (.t 17) (.t 19), none, [], false⟩,
       ⟨(some 21), .fad 1 (.t 2), none, [], false⟩,
       ⟨(some 22), .ld1 (.t 21), none, [], false⟩,
       ⟨(some 23), .fad 1 (.t 3), none, [], false⟩,
       ⟨(some 24), .ld1 (.t 23), none, [], false⟩,
       ⟨(some 25), .bin .sub (.t 22) (.t 24), none, [], false⟩,
       ⟨(some 26), .bin .mul (.t 20) (.t 25), none, [], false⟩,
       ⟨(some 27), .bin .add (.t 15) (.t 26), none, [], false⟩,
       ⟨(some 4), .mv (.t 27), none, [], false⟩])
     (.ret))
/-- skyway/fuse.apart -/
def c72 : CF where
  np := 2
  nt := 12
  res := [.t 4]
  code := .seq (.reg [
      ⟨(some 4), .mv (.k (.int .i64 0)), none, [], false⟩])
    (.seq (.reg [
       ⟨(some 5), .mv (.t 0), none, [], false⟩,
       ⟨(some 6), .mv (.t 1), none, [], false⟩,
       ⟨(some 7), .bin .sub (.t 5) (.t 6), none, [], false⟩,
       ⟨(some 8), .mv (.t 1), none, [], false⟩,
       ⟨(some 9), .mv (.t 0), none, [], false⟩,
       ⟨(some 10), .bin .sub (.t 8) (.t 9), none, [], false⟩,
       ⟨(some 11), .mnx true (.t 7) [(.t 10)], none, [], false⟩,
       ⟨(some 4), .mv (.t 11), none, [], false⟩])
     (.ret))
/-- skyway/fuse.Same -/
def c30 : CF where
  np := 3
  nt := 83
  res := [.t 6, .t 7]
  code := .seq (.reg [
      ⟨(some 3), .box (.t 0), none, [], false⟩,
      ⟨(some 4), .box (.t 1), none, [], false⟩,
      ⟨(some 6), .mv (.k (.bool false)), none, [], false⟩,
      ⟨(some 7), .mv (.k (.int .i64 0)), none, [], false⟩])
    (.seq (.seq (.reg [
        ⟨(some 14), .ldn 20 (.t 3), none, [], false⟩,
        ⟨(some 15), .ldn 20 (.t 4), none, [], false⟩,
        ⟨(some 16), .mk [.int .i64 0, .int .i64 0, .int .i64 0, .int .i64 0, .int .i64 0, .int .i64 0, .int .i64 0, .int .i64 0, .int .i64 0, .int .i64 0, .int .i64 0, .int .i64 0, .int .i64 0, .int .i64 0, .int .i64 0, .int .i64 0, .int .i64 0, .int .i64 0, .int .i64 0, .int .i64 0, .int .i64 0, .int .i64 0, .int .i64 0, .int .i64 0, .int .i64 0, .int .i64 0, .int .i64 0, .int .i64 0, .int .i64 0, .int .i64 0, .int .i64 0, .int .i64 0, .int .i64 0, .int .i64 0, .int .i64 0, .int .i64 0, .int .i64 0, .int .i64 0, .int .i64 0, .int .i64 0] [(0, 20, (.t 14)), (20, 20, (.t 15))], none, [], false⟩,
        ⟨(some 17), .mv (.k (.int .i64 0)), none, [], false⟩])
      (.blk 0 (.loop (.seq (.reg [
           ⟨(some 18), .bin .lss (.t 17) (.k (.int .i64 2)), none, [], false⟩])
         (.seq (.cond (.t 18) (.skip)
           (.exit 0))
          (.seq (.blk 1 (.seq (.reg [
               ⟨(some 19), .ixa 2 20 true (.t 16) (.t 17), none, [], false⟩,
               ⟨(some 9), .new [.int .i64 0, .int .i64 0, .int .i64 0, .int .i64 0, .int .i64 0, .int .i64 0, .int .i64 0, .int .i64 0, .int .i64 0, .int .i64 0, .int .i64 0, .int .i64 0, .int .i64 0, .int .i64 0, .int .i64 0, .int .i64 0, .int .i64 0, .int .i64 0, .int .i64 0, .int .i64 0], none, [], false⟩,
               ⟨none, .st 20 (.t 9) (.t 19), none, [], false⟩])
             (.seq (.reg [
                ⟨(some 20), .ldn 20 (.t 9), none, [], false⟩,
                ⟨(some 21), .call (.k (.fn 64 [])) [(.t 20)], none, [], false⟩,
                ⟨(some 10), .mv (.t 21), none, [], false⟩])
              (.seq (.reg [
                 ⟨(some 22), .mv (.t 10), none, [], false⟩,
                 ⟨(some 23), .bin .neq (.t 22) (.k (.int .i64 0)), none, [], false⟩])
               (.cond (.t 23) (.seq (.reg [
                   ⟨(some 24), .mv (.t 10), none, [], false⟩,
                   ⟨(some 6), .mv (.k (.bool false)), none, [], false⟩,
                   ⟨(some 7), .mv (.t 24), none, [], false⟩])
                 (.ret))
                (.skip))))))
           (.reg [
             ⟨(some 25), .bin .add (.t 17) (.k (.int .i64 1)), none, [], false⟩,
             ⟨(some 17), .mv (.t 25), none, [], false⟩])))))))
     (.seq (.seq (.reg [
         ⟨(some 26), .mv (.t 2), none, [], false⟩,
         ⟨(some 27), .bin .lss (.t 26) (.k (.int .i64 0)), none, [], false⟩,
         ⟨(some 28), .mv (.t 27), none, [], false⟩,
         ⟨(some 29), .mv (.t 2), (some (28, false)), [], false⟩,
         ⟨(some 30), .bin .gtr (.t 29) (.k (.int .i64 60000)), (some (28, false)), [], false⟩,
         ⟨(some 31), .pick (.t 28) (.k (.bool true)) (.t 30), none, [], false⟩])
       (.cond (.t 31) (.seq (.reg [
           ⟨(some 6), .mv (.k (.bool false)), none, [], false⟩,
           ⟨(some 7), .mv (.k (.int .i64 4)), none, [], false⟩])
         (.ret))
        (.skip)))
      (.seq (.reg [
         ⟨(some 32), .fad 0 (.t 3), none, [], false⟩,
         ⟨(some 33), .ldn 13 (.t 32), none, [], false⟩,
         ⟨(some 34), .fad 0 (.t 4), none, [], false⟩,
         ⟨(some 35), .ldn 13 (.t 34), none, [], false⟩,
         ⟨(some 11), .new [.int .i64 0, .int .i64 0, .int .i64 0, .int .i64 0, .int .i64 0, .int .i64 0, .int .i64 0, .int .i64 0, .int .i64 0, .int .i64 0, .int .i64 0, .int .i64 0, .int .i64 0], none, [], false⟩,
         ⟨(some 12), .new [.int .i64 0, .int .i64 0, .int .i64 0, .int .i64 0, .int .i64 0, .int .i64 0, .int .i64 0, .int .i64 0, .int .i64 0, .int .i64 0, .int .i64 0, .int .i64 0, .int .i64 0], none, [], false⟩,
         ⟨none, .st 13 (.t 11) (.t 33), none, [(.t 34)], false⟩,
         ⟨none, .st 13 (.t 12) (.t 35), none, [], false⟩])
       (.seq (.reg [
          ⟨(some 36), .fad 9 (.t 11), none, [], false⟩,
          ⟨(some 37), .ld1 (.t 36), none, [], false⟩,
          ⟨(some 38), .fad 9 (.t 12), none, [], false⟩,
          ⟨(some 39), .ld1 (.t 38), none, [], false⟩,
          ⟨(some 40), .bin .add (.t 37) (.t 39), none, [], false⟩,
          ⟨(some 13), .mv (.t 40), none, [], false⟩])
        (.seq (.reg [
           ⟨(some 41), .fad 2 (.t 11), none, [], false⟩,
           ⟨(some 42), .ld1 (.t 41), none, [], false⟩,
           ⟨(some 43), .fad 2 (.t 12), none, [], false⟩,
           ⟨(some 44), .ld1 (.t 43), none, [], false⟩,
           ⟨(some 45), .bin .eql (.t 42) (.t 44), none, [], false⟩,
           ⟨(some 46), .mv (.t 45), none, [], false⟩,
           ⟨(some 47), .fad 10 (.t 11), (some (46, true)), [], false⟩,
           ⟨(some 48), .ld1 (.t 47), (some (46, true)), [], false⟩,
           ⟨(some 49), .bin .lss (.t 48) (.k (.int .i64 0)), (some (46, true)), [], false⟩,
           ⟨(some 50), .mv (.t 49), (some (46, true)), [], false⟩,
           ⟨(some 51), .fad 10 (.t 12), (some (50, false)), [], false⟩,
           ⟨(some 52), .ld1 (.t 51), (some (50, false)), [], false⟩,
           ⟨(some 53), .bin .lss (.t 52) (.k (.int .i64 0)), (some (50, false)), [], false⟩,
           ⟨(some 54), .pick (.t 50) (.k (.bool true)) (.t 53), (some (46, true)), [], false⟩,
           ⟨(some 55), .mv (.t 54), (some (46, true)), [], false⟩,
           ⟨(some 56), .fad 10 (.t 11), (some (55, false)), [], false⟩,
           ⟨(some 57), .ld1 (.t 56), (some (55, false)), [], false⟩,
           ⟨(some 58), .fad 10 (.t 12), (some (55, false)), [], false⟩,
           ⟨(some 59), .ld1 (.t 58), (some (55, false)), [], false⟩,
           ⟨(some 60), .bin .eql (.t 57) (.t 59), (some (55, false)), [], false⟩,
           ⟨(some 61), .pick (.t 55) (.k (.bool true)) (.t 60), (some (46, true)), [], false⟩,
           ⟨(some 62), .pick (.t 46) (.t 61) (.k (.bool false)), none, [], false⟩,
           ⟨(some 63), .mv (.t 62), none, [], false⟩,
           ⟨(some 64), .fad 3 (.t 11), (some (63, true)), [], false⟩,
           ⟨(some 65), .ldn 2 (.t 64), (some (63, true)), [], false⟩,
           ⟨(some 66), .fad 3 (.t 12), (some (63, true)), [], false⟩,
           ⟨(some 67), .ldn 2 (.t 66), (some (63, true)), [], false⟩,
           ⟨(some 68), .call (.k (.fn 71 [])) [(.t 65), (.t 67)], (some (63, true)), [], false⟩,
           ⟨(some 69), .mv (.t 13), (some (63, true)), [], false⟩,
           ⟨(some 70), .mv (.t 13), (some (63, true)), [], false⟩,
           ⟨(some 71), .bin .mul (.t 69) (.t 70), (some (63, true)), [], false⟩,
           ⟨(some 72), .bin .leq (.t 68) (.t 71), (some (63, true)), [], false⟩,
           ⟨(some 73), .pick (.t 63) (.t 72) (.k (.bool false)), none, [], false⟩,
           ⟨(some 74), .mv (.t 73), none, [], false⟩,
           ⟨(some 75), .fad 7 (.t 11), (some (74, true)), [], false⟩,
           ⟨(some 76), .ld1 (.t 75), (some (74, true)), [], false⟩,
           ⟨(some 77), .fad 7 (.t 12), (some (74, true)), [], false⟩,
           ⟨(some 78), .ld1 (.t 77), (some (74, true)), [], false⟩,
           ⟨(some 79), .call (.k (.fn 72 [])) [(.t 76), (.t 78)], (some (74, true)), [], false⟩,
           ⟨(some 80), .mv (.t 2), (some (74, true)), [], false⟩,
           ⟨(some 81), .bin .leq (.t 79) (.t 80), (some (74, true)), [], false⟩,
           ⟨(some 82), .pick (.t 74) (.t 81) (.k (.bool false)), none, [], false⟩,
           ⟨(some 6), .mv (.t 82), none, [], false⟩,
           ⟨(some 7), .mv (.k (.int .i64 0)), none, [], false⟩])
         (.ret))))))
/-- cmp.isNaN[int] -/
def c128 : CF where
  np := 1
  nt := 6
  res := [.t 2]
  code := .seq (.reg [
      ⟨(some 2), .mv (.k (.bool false)), none, [], false⟩])
    (.seq (.reg [
       ⟨(some 3), .mv (.t 0), none, [], false⟩,
       ⟨(some 4), .mv (.t 0), none, [], false⟩,
       ⟨(some 5), .bin .neq (.t 3) (.t 4), none, [], false⟩,
       ⟨(some 2), .mv (.t 5), none, [], false⟩])
     (.ret))
/-- cmp.Compare[int] -/
def c110 : CF where
  np := 2
  nt := 20
  res := [.t 4]
  code := .seq (.reg [
      ⟨(some 4), .mv (.k (.int .i64 0)), none, [], false⟩])
    (.seq (.reg [
       ⟨(some 7), .mv (.t 0), none, [], false⟩,
       ⟨(some 8), .call (.k (.fn 128 [])) [(.t 7)], none, [], false⟩,
       ⟨(some 5), .mv (.t 8), none, [], false⟩])
     (.seq (.reg [
        ⟨(some 9), .mv (.t 1), none, [], false⟩,
        ⟨(some 10), .call (.k (.fn 128 [])) [(.t 9)], none, [], false⟩,
        ⟨(some 6), .mv (.t 10), none, [], false⟩])
      (.seq (.seq (.reg [
          ⟨(some 11), .mv (.t 5), none, [], false⟩])
        (.cond (.t 11) (.seq (.seq (.reg [
             ⟨(some 12), .mv (.t 6), none, [], false⟩])
           (.cond (.t 12) (.seq (.reg [
               ⟨(some 4), .mv (.k (.int .i64 0)), none, [], false⟩])
             (.ret))
            (.skip)))
          (.seq (.reg [
             ⟨(some 4), .mv (.k (.int .i64 (-1))), none, [], false⟩])
           (.ret)))
         (.skip)))
       (.seq (.seq (.reg [
           ⟨(some 13), .mv (.t 6), none, [], false⟩])
         (.cond (.t 13) (.seq (.reg [
             ⟨(some 4), .mv (.k (.int .i64 1)), none, [], false⟩])
           (.ret))
          (.skip)))
        (.seq (.seq (.reg [
            ⟨(some 14), .mv (.t 0), none, [], false⟩,
            ⟨(some 15), .mv (.t 1), none, [], false⟩,
            ⟨(some 16), .bin .lss (.t 14) (.t 15), none, [], false⟩])
          (.cond (.t 16) (.seq (.reg [
              ⟨(some 4), .mv (.k (.int .i64 (-1))), none, [], false⟩])
            (.ret))
           (.skip)))
         (.seq (.seq (.reg [
             ⟨(some 17), .mv (.t 0), none, [], false⟩,
             ⟨(some 18), .mv (.t 1), none, [], false⟩,
             ⟨(some 19), .bin .gtr (.t 17) (.t 18), none, [], false⟩])
           (.cond (.t 19) (.seq (.reg [
               ⟨(some 4), .mv (.k (.int .i64 1)), none, [], false⟩])
             (.ret))
            (.skip)))
          (.seq (.reg [
             ⟨(some 4), .mv (.k (.int .i64 0)), none, [], false⟩])
           (.ret))))))))
/-- cmp.Or[int] -/
def c109 : CF where
  np := 1
  nt := 18
  res := [.t 2]
  code := .seq (.reg [
      ⟨(some 2), .mv (.k (.int .i64 0)), none, [], false⟩])
    (.seq (.reg [
       ⟨(some 3), .mv (.k (.int .i64 0)), none, [], false⟩])
     (.seq (.seq (.reg [
         ⟨(some 6), .mv (.t 0), none, [], false⟩,
         ⟨(some 7), .lenv false (.t 6), none, [], false⟩,
         ⟨(some 8), .mv (.k (.int .i64 0)), none, [], false⟩])
       (.blk 0 (.loop (.seq (.reg [
            ⟨(some 9), .bin .lss (.t 8) (.t 7), none, [], false⟩])
          (.seq (.cond (.t 9) (.skip)
            (.exit 0))
           (.seq (.blk 1 (.seq (.reg [
                ⟨(some 10), .iad 1 (.t 6) (.t 8), none, [], false⟩,
                ⟨(some 11), .ld1 (.t 10), none, [], false⟩,
                ⟨(some 5), .mv (.t 11), none, [], false⟩])
              (.seq (.reg [
                 ⟨(some 12), .mv (.t 5), none, [], false⟩,
                 ⟨(some 13), .mv (.t 3), none, [], false⟩,
                 ⟨(some 14), .bin .neq (.t 12) (.t 13), none, [], false⟩])
               (.cond (.t 14) (.seq (.reg [
                   ⟨(some 15), .mv (.t 5), none, [], false⟩,
                   ⟨(some 2), .mv (.t 15), none, [], false⟩])
                 (.ret))
                (.skip)))))
            (.reg [
              ⟨(some 16), .bin .add (.t 8) (.k (.int .i64 1)), none, [], false⟩,
              ⟨(some 8), .mv (.t 16), none, [], false⟩])))))))
      (.seq (.reg [
         ⟨(some 17), .mv (.t 3), none, [], false⟩,
         ⟨(some 2), .mv (.t 17), none, [], false⟩])
       (.ret))))
/-- skyway/fuse.better -/
def c70 : CF where
  np := 2
  nt := 29
  res := [.t 4]
  code := .seq (.reg [
      ⟨(some 2), .box (.t 0), none, [], false⟩,
      ⟨(some 3), .box (.t 1), none, [], false⟩,
      ⟨(some 4), .mv (.k (.bool false)), none, [], false⟩])
    (.seq (.reg [
       ⟨(some 5), .fad 0 (.t 2), none, [], false⟩,
       ⟨(some 6), .fad 9 (.t 5), none, [], false⟩,
       ⟨(some 7), .ld1 (.t 6), none, [], false⟩,
       ⟨(some 8), .fad 0 (.t 3), none, [], false⟩,
       ⟨(some 9), .fad 9 (.t 8), none, [], false⟩,
       ⟨(some 10), .ld1 (.t 9), none, [], false⟩,
       ⟨(some 12), .fad 0 (.t 3), none, [], false⟩,
       ⟨(some 13), .fad 11 (.t 12), none, [], false⟩,
       ⟨(some 14), .ld1 (.t 13), none, [], false⟩,
       ⟨(some 15), .fad 0 (.t 2), none, [], false⟩,
       ⟨(some 16), .fad 11 (.t 15), none, [], false⟩,
       ⟨(some 17), .ld1 (.t 16), none, [], false⟩,
       ⟨(some 19), .fad 0 (.t 2), none, [], false⟩,
       ⟨(some 20), .fad 0 (.t 19), none, [], false⟩,
       ⟨(some 21), .ld1 (.t 20), none, [], false⟩,
       ⟨(some 22), .fad 0 (.t 3), none, [], false⟩,
       ⟨(some 23), .fad 0 (.t 22), none, [], false⟩,
       ⟨(some 24), .ld1 (.t 23), none, [], false⟩,
       ⟨(some 11), .call (.k (.fn 110 [])) [(.t 7), (.t 10)], none, [], true⟩,
       ⟨(some 18), .call (.k (.fn 110 [])) [(.t 14), (.t 17)], none, [], true⟩,
       ⟨(some 25), .call (.k (.fn 110 [])) [(.t 21), (.t 24)], none, [], false⟩,
       ⟨(some 26), .mks [.int .i64 0, .int .i64 0, .int .i64 0] 1 3 [(0, 1, (.t 11)), (1, 1, (.t 18)), (2, 1, (.t 25))], none, [], false⟩,
       ⟨(some 27), .call (.k (.fn 109 [])) [(.t 26)], none, [], false⟩,
       ⟨(some 28), .bin .lss (.t 27) (.k (.int .i64 0)), none, [], false⟩,
       ⟨(some 4), .mv (.t 28), none, [], false⟩])
     (.ret))
/-- skyway/fuse.Tracks -/
def c28 : CF where
  np := 2
  nt := 123
  res := [.t 4, .t 5]
  code := .seq (.reg [
      ⟨(some 4), .mv (.k (.sl true 0 0 0 0 0)), none, [], false⟩,
      ⟨(some 5), .mv (.k (.int .i64 0)), none, [], false⟩])
    (.seq (.seq (.reg [
        ⟨(some 19), .mv (.t 0), none, [], false⟩,
        ⟨(some 20), .lenv false (.t 19), none, [], false⟩,
        ⟨(some 21), .bin .gtr (.t 20) (.k (.int .i64 32)), none, [], false⟩])
      (.cond (.t 21) (.seq (.reg [
          ⟨(some 4), .mv (.k (.sl true 0 0 0 0 0)), none, [], false⟩,
          ⟨(some 5), .mv (.k (.int .i64 2)), none, [], false⟩])
        (.ret))
       (.skip)))
     (.seq (.seq (.reg [
         ⟨(some 22), .mv (.t 0), none, [], false⟩,
         ⟨(some 23), .lenv false (.t 22), none, [], false⟩,
         ⟨(some 24), .mv (.k (.int .i64 0)), none, [], false⟩])
       (.blk 0 (.loop (.seq (.reg [
            ⟨(some 25), .bin .lss (.t 24) (.t 23), none, [], false⟩])
          (.seq (.cond (.t 25) (.skip)
            (.exit 0))
           (.seq (.blk 1 (.seq (.reg [
                ⟨(some 26), .iad 20 (.t 22) (.t 24), none, [], false⟩,
                ⟨(some 27), .ldn 20 (.t 26), none, [], false⟩,
                ⟨(some 7), .new [.int .i64 0, .int .i64 0, .int .i64 0, .int .i64 0, .int .i64 0, .int .i64 0, .int .i64 0, .int .i64 0, .int .i64 0, .int .i64 0, .int .i64 0, .int .i64 0, .int .i64 0, .int .i64 0, .int .i64 0, .int .i64 0, .int .i64 0, .int .i64 0, .int .i64 0, .int .i64 0], none, [], false⟩,
                ⟨none, .st 20 (.t 7) (.t 27), none, [], false⟩])
              (.seq (.reg [
                 ⟨(some 28), .ldn 20 (.t 7), none, [], false⟩,
                 ⟨(some 29), .call (.k (.fn 64 [])) [(.t 28)], none, [], false⟩,
                 ⟨(some 8), .mv (.t 29), none, [], false⟩])
               (.seq (.reg [
                  ⟨(some 30), .mv (.t 8), none, [], false⟩,
                  ⟨(some 31), .bin .neq (.t 30) (.k (.int .i64 0)), none, [], false⟩])
                (.cond (.t 31) (.seq (.reg [
                    ⟨(some 32), .mv (.t 8), none, [], false⟩,
                    ⟨(some 4), .mv (.k (.sl true 0 0 0 0 0)), none, [], false⟩,
                    ⟨(some 5), .mv (.t 32), none, [], false⟩])
                  (.ret))
                 (.skip))))))
            (.reg [
              ⟨(some 33), .bin .add (.t 24) (.k (.int .i64 1)), none, [], false⟩,
              ⟨(some 24), .mv (.t 33), none, [], false⟩])))))))
      (.seq (.seq (.reg [
          ⟨(some 34), .mv (.t 1), none, [], false⟩,
          ⟨(some 35), .bin .lss (.t 34) (.k (.int .i64 0)), none, [], false⟩,
          ⟨(some 36), .mv (.t 35), none, [], false⟩,
          ⟨(some 37), .mv (.t 1), (some (36, false)), [], false⟩,
          ⟨(some 38), .bin .gtr (.t 37) (.k (.int .i64 60000)), (some (36, false)), [], false⟩,
          ⟨(some 39), .pick (.t 36) (.k (.bool true)) (.t 38), none, [], false⟩])
        (.cond (.t 39) (.seq (.reg [
            ⟨(some 4), .mv (.k (.sl true 0 0 0 0 0)), none, [], false⟩,
            ⟨(some 5), .mv (.k (.int .i64 4)), none, [], false⟩])
          (.ret))
         (.skip)))
       (.seq (.reg [
          ⟨(some 40), .mv (.t 0), none, [], false⟩,
          ⟨(some 41), .lenv false (.t 40), none, [], false⟩,
          ⟨(some 42), .mksl [.bool false] 1 (.t 41) (.t 41), none, [], false⟩,
          ⟨(some 9), .mv (.t 42), none, [], false⟩])
        (.seq (.seq (.reg [
            ⟨(some 43), .mv (.t 0), none, [], false⟩,
            ⟨(some 44), .lenv false (.t 43), none, [], false⟩,
            ⟨(some 45), .mv (.k (.int .i64 0)), none, [], false⟩])
          (.blk 2 (.loop (.seq (.reg [
               ⟨(some 46), .bin .lss (.t 45) (.t 44), none, [], false⟩])
             (.seq (.cond (.t 46) (.skip)
               (.exit 2))
              (.seq (.blk 3 (.seq (.reg [
                   ⟨(some 47), .mv (.t 45), none, [], false⟩,
                   ⟨(some 48), .iad 20 (.t 43) (.t 45), none, [], false⟩,
                   ⟨(some 49), .ldn 20 (.t 48), none, [], false⟩,
                   ⟨(some 11), .new [.int .i64 0, .int .i64 0, .int .i64 0, .int .i64 0, .int .i64 0, .int .i64 0, .int .i64 0, .int .i64 0, .int .i64 0, .int .i64 0, .int .i64 0, .int .i64 0, .int .i64 0, .int .i64 0, .int .i64 0, .int .i64 0, .int .i64 0, .int .i64 0, .int .i64 0, .int .i64 0], none, [], false⟩,
                   ⟨(some 10), .mv (.t 47), none, [], false⟩,
                   ⟨none, .st 20 (.t 11) (.t 49), none, [], false⟩])
                 (.seq (.reg [
                    ⟨(some 50), .mv (.t 0), none, [], false⟩,
                    ⟨(some 51), .lenv false (.t 50), none, [], false⟩,
                    ⟨(some 52), .mv (.k (.int .i64 0)), none, [], false⟩])
                  (.blk 4 (.loop (.seq (.reg [
                       ⟨(some 53), .bin .lss (.t 52) (.t 51), none, [], false⟩])
                     (.seq (.cond (.t 53) (.skip)
                       (.exit 4))
                      (.seq (.blk 5 (.seq (.reg [
                           ⟨(some 54), .mv (.t 52), none, [], false⟩,
                           ⟨(some 55), .iad 20 (.t 50) (.t 52), none, [], false⟩,
                           ⟨(some 56), .ldn 20 (.t 55), none, [], false⟩,
                           ⟨(some 13), .new [.int .i64 0, .int .i64 0, .int .i64 0, .int .i64 0, .int .i64 0, .int .i64 0, .int .i64 0, .int .i64 0, .int .i64 0, .int .i64 0, .int .i64 0, .int .i64 0, .int .i64 0, .int .i64 0, .int .i64 0, .int .i64 0, .int .i64 0, .int .i64 0, .int .i64 0, .int .i64 0], none, [], false⟩,
                           ⟨(some 12), .mv (.t 54), none, [], false⟩,
                           ⟨none, .st 20 (.t 13) (.t 56), none, [], false⟩])
                         (.seq (.reg [
                            ⟨(some 58), .ldn 20 (.t 11), none, [], false⟩,
                            ⟨(some 59), .ldn 20 (.t 13), none, [], false⟩,
                            ⟨(some 60), .mv (.t 1), none, [], false⟩,
                            ⟨(some 61), .call (.k (.fn 30 [])) [(.t 58), (.t 59), (.t 60)], none, [], false⟩,
                            ⟨(some 57), .mv (.t 61), none, [], false⟩,
                            ⟨(some 62), .ext (.t 57) 0, none, [], false⟩,
                            ⟨(some 63), .ext (.t 57) 1, none, [], false⟩,
                            ⟨(some 14), .mv (.t 62), none, [], false⟩,
                            ⟨(some 15), .mv (.t 63), none, [], false⟩])
                          (.seq (.seq (.reg [
                              ⟨(some 64), .mv (.t 10), none, [], false⟩,
                              ⟨(some 65), .mv (.t 12), none, [], false⟩,
                              ⟨(some 66), .bin .eql (.t 64) (.t 65), none, [], false⟩,
                              ⟨(some 67), .mv (.t 66), none, [], false⟩,
                              ⟨(some 68), .mv (.t 14), (some (67, false)), [], false⟩,
                              ⟨(some 69), .un .not (.t 68), (some (67, false)), [], false⟩,
                              ⟨(some 70), .pick (.t 67) (.k (.bool true)) (.t 69), none, [], false⟩,
                              ⟨(some 71), .mv (.t 70), none, [], false⟩,
                              ⟨(some 72), .fad 0 (.t 11), (some (71, false)), [], false⟩,
                              ⟨(some 73), .fad 10 (.t 72), (some (71, false)), [], false⟩,
                              ⟨(some 74), .ld1 (.t 73), (some (71, false)), [], false⟩,
                              ⟨(some 75), .bin .lss (.t 74) (.k (.int .i64 0)), (some (71, false)), [], false⟩,
                              ⟨(some 76), .pick (.t 71) (.k (.bool true)) (.t 75), none, [], false⟩,
                              ⟨(some 77), .mv (.t 76), none, [], false⟩,
                              ⟨(some 78), .fad 0 (.t 11), (some (77, false)), [], false⟩,
                              ⟨(some 79), .fad 10 (.t 78), (some (77, false)), [], false⟩,
                              ⟨(some 80), .ld1 (.t 79), (some (77, false)), [], false⟩,
                              ⟨(some 81), .fad 0 (.t 13), (some (77, false)), [], false⟩,
                              ⟨(some 82), .fad 10 (.t 81), (some (77, false)), [], false⟩,
                              ⟨(some 83), .ld1 (.t 82), (some (77, false)), [], false⟩,
                              ⟨(some 84), .bin .neq (.t 80) (.t 83), (some (77, false)), [], false⟩,
                              ⟨(some 85), .pick (.t 77) (.k (.bool true)) (.t 84), none, [], false⟩])
                            (.cond (.t 85) (.exit 5)
                             (.skip)))
                           (.seq (.reg [
                              ⟨(some 86), .ldn 20 (.t 13), none, [], false⟩,
                              ⟨(some 87), .ldn 20 (.t 11), none, [], false⟩,
                              ⟨(some 88), .call (.k (.fn 70 [])) [(.t 86), (.t 87)], none, [], false⟩,
                              ⟨(some 89), .mv (.t 88), none, [], false⟩,
                              ⟨(some 90), .ldn 20 (.t 11), (some (89, false)), [], false⟩,
                              ⟨(some 91), .ldn 20 (.t 13), (some (89, false)), [], false⟩,
                              ⟨(some 92), .call (.k (.fn 70 [])) [(.t 90), (.t 91)], (some (89, false)), [], false⟩,
                              ⟨(some 93), .un .not (.t 92), (some (89, false)), [], false⟩,
                              ⟨(some 94), .mv (.t 93), (some (89, false)), [], false⟩,
                              ⟨(some 95), .mv (.t 12), (some (94, true)), [], false⟩,
                              ⟨(some 96), .mv (.t 10), (some (94, true)), [], false⟩,
                              ⟨(some 97), .bin .lss (.t 95) (.t 96), (some (94, true)), [], false⟩,
                              ⟨(some 98), .pick (.t 94) (.t 97) (.k (.bool false)), (some (89, false)), [], false⟩,
                              ⟨(some 99), .pick (.t 89) (.k (.bool true)) (.t 98), none, [], false⟩])
                            (.cond (.t 99) (.reg [
                               ⟨(some 100), .mv (.t 9), none, [], false⟩,
                               ⟨(some 101), .mv (.t 10), none, [], false⟩,
                               ⟨(some 102), .iad 1 (.t 100) (.t 101), none, [], false⟩,
                               ⟨none, .st 1 (.t 102) (.k (.bool true)), none, [], false⟩])
                             (.skip)))))))
                       (.reg [
                         ⟨(some 103), .bin .add (.t 52) (.k (.int .i64 1)), none, [], false⟩,
                         ⟨(some 52), .mv (.t 103), none, [], false⟩])))))))))
               (.reg [
                 ⟨(some 104), .bin .add (.t 45) (.k (.int .i64 1)), none, [], false⟩,
                 ⟨(some 45), .mv (.t 104), none, [], false⟩])))))))
         (.seq (.reg [
            ⟨(some 16), .mv (.k (.sl true 0 0 0 0 0)), none, [], false⟩])
          (.seq (.seq (.reg [
              ⟨(some 105), .mv (.t 0), none, [], false⟩,
              ⟨(some 106), .lenv false (.t 105), none, [], false⟩,
              ⟨(some 107), .mv (.k (.int .i64 0)), none, [], false⟩])
            (.blk 6 (.loop (.seq (.reg [
                 ⟨(some 108), .bin .lss (.t 107) (.t 106), none, [], false⟩])
               (.seq (.cond (.t 108) (.skip)
                 (.exit 6))
                (.seq (.blk 7 (.seq (.reg [
                     ⟨(some 109), .mv (.t 107), none, [], false⟩,
                     ⟨(some 110), .iad 20 (.t 105) (.t 107), none, [], false⟩,
                     ⟨(some 111), .ldn 20 (.t 110), none, [], false⟩,
                     ⟨(some 18), .new [.int .i64 0, .int .i64 0, .int .i64 0, .int .i64 0, .int .i64 0, .int .i64 0, .int .i64 0, .int .i64 0, .int .i64 0, .int .i64 0, .int .i64 0, .int .i64 0, .int .i64 0, .int .i64 0, .int .i64 0, .int .i64 0, .int .i64 0, .int .i64 0, .int .i64 0, .int .i64 0], none, [], false⟩,
                     ⟨(some 17), .mv (.t 109), none, [], false⟩,
                     ⟨none, .st 20 (.t 18) (.t 111), none, [], false⟩])
                   (.seq (.reg [
                      ⟨(some 112), .mv (.t 9), none, [], false⟩,
                      ⟨(some 113), .mv (.t 17), none, [], false⟩,
                      ⟨(some 114), .iad 1 (.t 112) (.t 113), none, [], false⟩,
                      ⟨(some 115), .ld1 (.t 114), none, [], false⟩,
                      ⟨(some 116), .un .not (.t 115), none, [], false⟩])
                    (.cond (.t 116) (.reg [
                       ⟨(some 117), .mv (.t 16), none, [], false⟩,
                       ⟨(some 118), .ldn 20 (.t 18), none, [], false⟩,
                       ⟨(some 119), .mks [.int .i64 0, .int .i64 0, .int .i64 0, .int .i64 0, .int .i64 0, .int .i64 0, .int .i64 0, .int .i64 0, .int .i64 0, .int .i64 0, .int .i64 0, .int .i64 0, .int .i64 0, .int .i64 0, .int .i64 0, .int .i64 0, .int .i64 0, .int .i64 0, .int .i64 0, .int .i64 0] 20 1 [(0, 20, (.t 118))], none, [], false⟩,
                       ⟨(some 120), .app 20 160 (.t 117) (.t 119), none, [], false⟩,
                       ⟨(some 16), .mv (.t 120), none, [], false⟩])
                     (.skip)))))
                 (.reg [
                   ⟨(some 121), .bin .add (.t 107) (.k (.int .i64 1)), none, [], false⟩,
                   ⟨(some 107), .mv (.t 121), none, [], false⟩])))))))
           (.seq (.reg [
              ⟨(some 122), .mv (.t 16), none, [], false⟩,
              ⟨(some 4), .mv (.t 122), none, [], false⟩,
              ⟨(some 5), .mv (.k (.int .i64 0)), none, [], false⟩])
            (.ret)))))))))
/-- skyway/skywaykeep2.FuseTracks$1 -/
def c29 : CF where
  np := 3
  nt := 35
  res := [.t 5]
  code := .seq (.reg [
      ⟨(some 3), .box (.t 0), none, [], false⟩,
      ⟨(some 4), .box (.t 1), none, [], false⟩,
      ⟨(some 5), .mv (.k (.bool false)), none, [], false⟩])
    (.seq (.reg [
       ⟨(some 9), .ldn 20 (.t 3), none, [], false⟩,
       ⟨(some 10), .ldn 20 (.t 4), none, [], false⟩,
       ⟨(some 11), .ld1 (.t 2), none, [], false⟩,
       ⟨(some 12), .call (.k (.fn 30 [])) [(.t 9), (.t 10), (.t 11)], none, [], false⟩,
       ⟨(some 8), .mv (.t 12), none, [], false⟩,
       ⟨(some 13), .ext (.t 8) 0, none, [], false⟩,
       ⟨(some 14), .ext (.t 8) 1, none, [], false⟩,
       ⟨(some 6), .mv (.t 13), none, [], false⟩,
       ⟨(some 7), .mv (.t 14), none, [], false⟩])
     (.seq (.reg [
        ⟨(some 15), .mv (.t 7), none, [], false⟩,
        ⟨(some 16), .bin .eql (.t 15) (.k (.int .i64 0)), none, [], false⟩,
        ⟨(some 17), .mv (.t 16), none, [], false⟩,
        ⟨(some 18), .mv (.t 6), (some (17, true)), [], false⟩,
        ⟨(some 19), .pick (.t 17) (.t 18) (.k (.bool false)), none, [], false⟩,
        ⟨(some 20), .mv (.t 19), none, [], false⟩,
        ⟨(some 21), .fad 0 (.t 3), (some (20, true)), [], false⟩,
        ⟨(some 22), .fad 10 (.t 21), (some (20, true)), [], false⟩,
        ⟨(some 23), .ld1 (.t 22), (some (20, true)), [], false⟩,
        ⟨(some 24), .bin .geq (.t 23) (.k (.int .i64 0)), (some (20, true)), [], false⟩,
        ⟨(some 25), .pick (.t 20) (.t 24) (.k (.bool false)), none, [], false⟩,
        ⟨(some 26), .mv (.t 25), none, [], false⟩,
        ⟨(some 27), .fad 0 (.t 3), (some (26, true)), [], false⟩,
        ⟨(some 28), .fad 10 (.t 27), (some (26, true)), [], false⟩,
        ⟨(some 29), .ld1 (.t 28), (some (26, true)), [], false⟩,
        ⟨(some 30), .fad 0 (.t 4), (some (26, true)), [], false⟩,
        ⟨(some 31), .fad 10 (.t 30), (some (26, true)), [], false⟩,
        ⟨(some 32), .ld1 (.t 31), (some (26, true)), [], false⟩,
        ⟨(some 33), .bin .eql (.t 29) (.t 32), (some (26, true)), [], false⟩,
        ⟨(some 34), .pick (.t 26) (.t 33) (.k (.bool false)), none, [], false⟩,
        ⟨(some 5), .mv (.t 34), none, [], false⟩])
      (.ret)))
/-- skyway/skywaykeep2.FuseTracks$2 -/
def c32 : CF where
  np := 3
  nt := 9
  res := [.t 4]
  code := .seq (.reg [
      ⟨(some 3), .box (.t 0), none, [], false⟩,
      ⟨(some 4), .mv (.k (.bool false)), none, [], false⟩])
    (.seq (.reg [
       ⟨(some 5), .ld1 (.t 1), none, [], false⟩,
       ⟨(some 6), .ldn 20 (.t 2), none, [], false⟩,
       ⟨(some 7), .ldn 20 (.t 3), none, [], false⟩,
       ⟨(some 8), .call (.t 5) [(.t 6), (.t 7)], none, [], false⟩,
       ⟨(some 4), .mv (.t 8), none, [], false⟩])
     (.ret))
/-- slices.IndexFunc[[]skyway/api.FilterTrack,skyway/api.FilterTrack] -/
def c73 : CF where
  np := 2
  nt := 19
  res := [.t 4]
  code := .seq (.reg [
      ⟨(some 4), .mv (.k (.int .i64 0)), none, [], false⟩])
    (.seq (.seq (.reg [
        ⟨(some 6), .mv (.t 0), none, [], false⟩,
        ⟨(some 7), .lenv false (.t 6), none, [], false⟩,
        ⟨(some 8), .mv (.k (.int .i64 0)), none, [], false⟩])
      (.blk 0 (.loop (.seq (.reg [
           ⟨(some 9), .bin .lss (.t 8) (.t 7), none, [], false⟩])
         (.seq (.cond (.t 9) (.skip)
           (.exit 0))
          (.seq (.blk 1 (.seq (.reg [
               ⟨(some 10), .mv (.t 8), none, [], false⟩,
               ⟨(some 5), .mv (.t 10), none, [], false⟩])
             (.seq (.reg [
                ⟨(some 11), .mv (.t 1), none, [], false⟩,
                ⟨(some 12), .mv (.t 0), none, [], false⟩,
                ⟨(some 13), .mv (.t 5), none, [], false⟩,
                ⟨(some 14), .iad 20 (.t 12) (.t 13), none, [], false⟩,
                ⟨(some 15), .ldn 20 (.t 14), none, [], false⟩,
                ⟨(some 16), .call (.t 11) [(.t 15)], none, [], false⟩])
              (.cond (.t 16) (.seq (.reg [
                  ⟨(some 17), .mv (.t 5), none, [], false⟩,
                  ⟨(some 4), .mv (.t 17), none, [], false⟩])
                (.ret))
               (.skip)))))
           (.reg [
             ⟨(some 18), .bin .add (.t 8) (.k (.int .i64 1)), none, [], false⟩,
             ⟨(some 8), .mv (.t 18), none, [], false⟩])))))))
     (.seq (.reg [
        ⟨(some 4), .mv (.k (.int .i64 (-1))), none, [], false⟩])
      (.ret)))
/-- slices.ContainsFunc[[]skyway/api.FilterTrack,skyway/api.FilterTrack] -/
def c31 : CF where
  np := 2
  nt := 9
  res := [.t 4]
  code := .seq (.reg [
      ⟨(some 4), .mv (.k (.bool false)), none, [], false⟩])
    (.seq (.reg [
       ⟨(some 5), .mv (.t 0), none, [], false⟩,
       ⟨(some 6), .mv (.t 1), none, [], false⟩,
       ⟨(some 7), .call (.k (.fn 73 [])) [(.t 5), (.t 6)], none, [], false⟩,
       ⟨(some 8), .bin .geq (.t 7) (.k (.int .i64 0)), none, [], false⟩,
       ⟨(some 4), .mv (.t 8), none, [], false⟩])
     (.ret))
/-- slices.Index[[]skyway/api.FilterTrack,skyway/api.FilterTrack] -/
def c74 : CF where
  np := 2
  nt := 19
  res := [.t 4]
  code := .seq (.reg [
      ⟨(some 3), .box (.t 1), none, [], false⟩,
      ⟨(some 4), .mv (.k (.int .i64 0)), none, [], false⟩])
    (.seq (.seq (.reg [
        ⟨(some 6), .mv (.t 0), none, [], false⟩,
        ⟨(some 7), .lenv false (.t 6), none, [], false⟩,
        ⟨(some 8), .mv (.k (.int .i64 0)), none, [], false⟩])
      (.blk 0 (.loop (.seq (.reg [
           ⟨(some 9), .bin .lss (.t 8) (.t 7), none, [], false⟩])
         (.seq (.cond (.t 9) (.skip)
           (.exit 0))
          (.seq (.blk 1 (.seq (.reg [
               ⟨(some 10), .mv (.t 8), none, [], false⟩,
               ⟨(some 5), .mv (.t 10), none, [], false⟩])
             (.seq (.reg [
                ⟨(some 11), .ldn 20 (.t 3), none, [], false⟩,
                ⟨(some 12), .mv (.t 0), none, [], false⟩,
                ⟨(some 13), .mv (.t 5), none, [], false⟩,
                ⟨(some 14), .iad 20 (.t 12) (.t 13), none, [], false⟩,
                ⟨(some 15), .ldn 20 (.t 14), none, [], false⟩,
                ⟨(some 16), .eqs false (some [.i, .i, .i, .i, .i, .i, .i, .i, .i, .i, .i, .i, .i, .i, .i, .i, .i, .i, .i, .i]) (.t 11) (.t 15), none, [], false⟩])
              (.cond (.t 16) (.seq (.reg [
                  ⟨(some 17), .mv (.t 5), none, [], false⟩,
                  ⟨(some 4), .mv (.t 17), none, [], false⟩])
                (.ret))
               (.skip)))))
           (.reg [
             ⟨(some 18), .bin .add (.t 8) (.k (.int .i64 1)), none, [], false⟩,
             ⟨(some 8), .mv (.t 18), none, [], false⟩])))))))
     (.seq (.reg [
        ⟨(some 4), .mv (.k (.int .i64 (-1))), none, [], false⟩])
      (.ret)))
/-- slices.Contains[[]skyway/api.FilterTrack,skyway/api.FilterTrack] -/
def c33 : CF where
  np := 2
  nt := 9
  res := [.t 4]
  code := .seq (.reg [
      ⟨(some 3), .box (.t 1), none, [], false⟩,
      ⟨(some 4), .mv (.k (.bool false)), none, [], false⟩])
    (.seq (.reg [
       ⟨(some 5), .mv (.t 0), none, [], false⟩,
       ⟨(some 6), .ldn 20 (.t 3), none, [], false⟩,
       ⟨(some 7), .call (.k (.fn 74 [])) [(.t 5), (.t 6)], none, [], false⟩,
       ⟨(some 8), .bin .geq (.t 7) (.k (.int .i64 0)), none, [], false⟩,
       ⟨(some 4), .mv (.t 8), none, [], false⟩])
     (.ret))
/-- skyway/skywaykeep2.FuseTracks$3 -/
def c35 : CF where
  np := 3
  nt := 9
  res := [.t 4]
  code := .seq (.reg [
      ⟨(some 3), .box (.t 0), none, [], false⟩,
      ⟨(some 4), .mv (.k (.bool false)), none, [], false⟩])
    (.seq (.reg [
       ⟨(some 5), .ld1 (.t 1), none, [], false⟩,
       ⟨(some 6), .ldn 20 (.t 2), none, [], false⟩,
       ⟨(some 7), .ldn 20 (.t 3), none, [], false⟩,
       ⟨(some 8), .call (.t 5) [(.t 6), (.t 7)], none, [], false⟩,
       ⟨(some 4), .mv (.t 8), none, [], false⟩])
     (.ret))
/-- slices.Grow[[]skyway/api.FilterTrack,skyway/api.FilterTrack] -/
def c75 : CF where
  np := 2
  nt := 27
  res := [.t 4]
  code := .seq (.reg [
      ⟨(some 4), .mv (.k (.sl true 0 0 0 0 0)), none, [], false⟩])
    (.seq (.seq (.reg [
        ⟨(some 5), .mv (.t 1), none, [], false⟩,
        ⟨(some 6), .bin .lss (.t 5) (.k (.int .i64 0)), none, [], false⟩])
      (.cond (.t 6) (.reg [
         ⟨(some 7), .bad, none, [], false⟩,
         ⟨none, .bad, none, [], false⟩])
       (.skip)))
     (.seq (.seq (.reg [
         ⟨(some 8), .mv (.t 1), none, [], false⟩,
         ⟨(some 9), .mv (.t 0), none, [], false⟩,
         ⟨(some 10), .capv (.t 9), none, [], false⟩,
         ⟨(some 11), .mv (.t 0), none, [], false⟩,
         ⟨(some 12), .lenv false (.t 11), none, [], false⟩,
         ⟨(some 13), .bin .sub (.t 10) (.t 12), none, [], false⟩,
         ⟨(some 14), .bin .sub (.t 8) (.t 13), none, [], false⟩,
         ⟨(some 1), .mv (.t 14), none, [], false⟩])
       (.seq (.reg [
          ⟨(some 15), .mv (.t 1), none, [], false⟩,
          ⟨(some 16), .bin .gtr (.t 15) (.k (.int .i64 0)), none, [], false⟩])
        (.cond (.t 16) (.reg [
           ⟨(some 17), .mv (.t 0), none, [], false⟩,
           ⟨(some 18), .mv (.t 0), none, [], false⟩,
           ⟨(some 19), .capv (.t 18), none, [], false⟩,
           ⟨(some 20), .slc 20 (.t 17) none (some (.t 19)), none, [], false⟩,
           ⟨(some 21), .mv (.t 1), none, [], false⟩,
           ⟨(some 22), .appz [.int .i64 0, .int .i64 0, .int .i64 0, .int .i64 0, .int .i64 0, .int .i64 0, .int .i64 0, .int .i64 0, .int .i64 0, .int .i64 0, .int .i64 0, .int .i64 0, .int .i64 0, .int .i64 0, .int .i64 0, .int .i64 0, .int .i64 0, .int .i64 0, .int .i64 0, .int .i64 0] 160 (.t 20) (.t 21), none, [], false⟩,
           ⟨(some 23), .mv (.t 0), none, [], false⟩,
           ⟨(some 24), .lenv false (.t 23), none, [], false⟩,
           ⟨(some 25), .slc 20 (.t 22) none (some (.t 24)), none, [], false⟩,
           ⟨(some 0), .mv (.t 25), none, [], false⟩])
         (.skip))))
      (.seq (.reg [
         ⟨(some 26), .mv (.t 0), none, [], false⟩,
         ⟨(some 4), .mv (.t 26), none, [], false⟩])
       (.ret))))
/-- slices.Concat[[]skyway/api.FilterTrack,skyway/api.FilterTrack] -/
def c34 : CF where
  np := 1
  nt := 36
  res := [.t 2]
  code := .seq (.reg [
      ⟨(some 2), .mv (.k (.sl true 0 0 0 0 0)), none, [], false⟩])
    (.seq (.reg [
       ⟨(some 3), .mv (.k (.int .i64 0)), none, [], false⟩])
     (.seq (.seq (.reg [
         ⟨(some 9), .mv (.t 0), none, [], false⟩,
         ⟨(some 10), .lenv false (.t 9), none, [], false⟩,
         ⟨(some 11), .mv (.k (.int .i64 0)), none, [], false⟩])
       (.blk 0 (.loop (.seq (.reg [
            ⟨(some 12), .bin .lss (.t 11) (.t 10), none, [], false⟩])
          (.seq (.cond (.t 12) (.skip)
            (.exit 0))
           (.seq (.blk 1 (.seq (.reg [
                ⟨(some 13), .iad 1 (.t 9) (.t 11), none, [], false⟩,
                ⟨(some 14), .ld1 (.t 13), none, [], false⟩,
                ⟨(some 5), .mv (.t 14), none, [], false⟩])
              (.seq (.reg [
                 ⟨(some 15), .mv (.t 3), none, [], false⟩,
                 ⟨(some 16), .mv (.t 5), none, [], false⟩,
                 ⟨(some 17), .lenv false (.t 16), none, [], false⟩,
                 ⟨(some 18), .bin .add (.t 15) (.t 17), none, [], false⟩,
                 ⟨(some 3), .mv (.t 18), none, [], false⟩])
               (.seq (.reg [
                  ⟨(some 19), .mv (.t 3), none, [], false⟩,
                  ⟨(some 20), .bin .lss (.t 19) (.k (.int .i64 0)), none, [], false⟩])
                (.cond (.t 20) (.reg [
                   ⟨(some 21), .bad, none, [], false⟩,
                   ⟨none, .bad, none, [], false⟩])
                 (.skip))))))
            (.reg [
              ⟨(some 22), .bin .add (.t 11) (.k (.int .i64 1)), none, [], false⟩,
              ⟨(some 11), .mv (.t 22), none, [], false⟩])))))))
      (.seq (.reg [
         ⟨(some 23), .mv (.t 3), none, [], false⟩,
         ⟨(some 24), .call (.k (.fn 75 [])) [(.k (.sl true 0 0 0 0 0)), (.t 23)], none, [], false⟩,
         ⟨(some 6), .mv (.t 24), none, [], false⟩])
       (.seq (.seq (.reg [
           ⟨(some 25), .mv (.t 0), none, [], false⟩,
           ⟨(some 26), .lenv false (.t 25), none, [], false⟩,
           ⟨(some 27), .mv (.k (.int .i64 0)), none, [], false⟩])
         (.blk 2 (.loop (.seq (.reg [
              ⟨(some 28), .bin .lss (.t 27) (.t 26), none, [], false⟩])
            (.seq (.cond (.t 28) (.skip)
              (.exit 2))
             (.seq (.blk 3 (.seq (.reg [
                  ⟨(some 29), .iad 1 (.t 25) (.t 27), none, [], false⟩,
                  ⟨(some 30), .ld1 (.t 29), none, [], false⟩,
                  ⟨(some 8), .mv (.t 30), none, [], false⟩])
                (.reg [
                  ⟨(some 31), .mv (.t 6), none, [], false⟩,
                  ⟨(some 32), .mv (.t 8), none, [], false⟩,
                  ⟨(some 33), .app 20 160 (.t 31) (.t 32), none, [], false⟩,
                  ⟨(some 6), .mv (.t 33), none, [], false⟩])))
              (.reg [
                ⟨(some 34), .bin .add (.t 27) (.k (.int .i64 1)), none, [], false⟩,
                ⟨(some 27), .mv (.t 34), none, [], false⟩])))))))
        (.seq (.reg [
           ⟨(some 35), .mv (.t 6), none, [], false⟩,
           ⟨(some 2), .mv (.t 35), none, [], false⟩])
         (.ret))))))
/-- skyway/skywaykeep2.FuseTracks -/
def c8 : CF where
  np := 2
  nt := 101
  res := [.t 4]
  code := .seq (.reg [
      ⟨(some 3), .box (.t 1), none, [], false⟩,
      ⟨(some 4), .mv (.k (.bool false)), none, [], false⟩])
    (.seq (.reg [
       ⟨(some 15), .mk [.int .i64 0, .int .i64 0, .int .i64 0, .int .i64 0, .int .i64 0, .int .i64 0, .int .i64 0, .int .i64 0, .int .i64 0, .int .i64 0, .int .i64 0, .int .i64 0, .int .i64 0] [(10, 1, (.k (.int .i64 5)))], none, [], false⟩,
       ⟨(some 16), .mk [.int .i64 0, .int .i64 0, .int .i64 0, .int .i64 0, .int .i64 0, .int .i64 0, .int .i64 0, .int .i64 0, .int .i64 0, .int .i64 0, .int .i64 0, .int .i64 0, .int .i64 0, .int .i64 0, .int .i64 0, .int .i64 0, .int .i64 0, .int .i64 0, .int .i64 0, .int .i64 0] [(0, 13, (.t 15))], none, [], false⟩,
       ⟨(some 5), .new [.int .i64 0, .int .i64 0, .int .i64 0, .int .i64 0, .int .i64 0, .int .i64 0, .int .i64 0, .int .i64 0, .int .i64 0, .int .i64 0, .int .i64 0, .int .i64 0, .int .i64 0, .int .i64 0, .int .i64 0, .int .i64 0, .int .i64 0, .int .i64 0, .int .i64 0, .int .i64 0], none, [], false⟩,
       ⟨none, .st 20 (.t 5) (.t 16), none, [], false⟩])
     (.seq (.seq (.reg [
         ⟨(some 18), .ldn 20 (.t 5), none, [], false⟩,
         ⟨(some 19), .ldn 20 (.t 5), none, [], false⟩,
         ⟨(some 20), .mks [.int .i64 0, .int .i64 0, .int .i64 0, .int .i64 0, .int .i64 0, .int .i64 0, .int .i64 0, .int .i64 0, .int .i64 0, .int .i64 0, .int .i64 0, .int .i64 0, .int .i64 0, .int .i64 0, .int .i64 0, .int .i64 0, .int .i64 0, .int .i64 0, .int .i64 0, .int .i64 0, .int .i64 0, .int .i64 0, .int .i64 0, .int .i64 0, .int .i64 0, .int .i64 0, .int .i64 0, .int .i64 0, .int .i64 0, .int .i64 0, .int .i64 0, .int .i64 0, .int .i64 0, .int .i64 0, .int .i64 0, .int .i64 0, .int .i64 0, .int .i64 0, .int .i64 0, .int .i64 0] 20 2 [(0, 20, (.t 18)), (20, 20, (.t 19))], none, [], false⟩,
         ⟨(some 21), .call (.k (.fn 28 [])) [(.t 20), (.k (.int .i64 0))], none, [], false⟩,
         ⟨(some 17), .mv (.t 21), none, [], false⟩,
         ⟨(some 22), .ext (.t 17) 0, none, [], false⟩,
         ⟨(some 23), .ext (.t 17) 1, none, [], false⟩,
         ⟨(some 6), .mv (.t 22), none, [], false⟩,
         ⟨(some 7), .mv (.t 23), none, [], false⟩])
       (.seq (.reg [
          ⟨(some 24), .mv (.t 7), none, [], false⟩,
          ⟨(some 25), .bin .neq (.t 24) (.k (.int .i64 0)), none, [], false⟩,
          ⟨(some 26), .mv (.t 25), none, [], false⟩,
          ⟨(some 27), .mv (.t 6), (some (26, false)), [], false⟩,
          ⟨(some 28), .lenv false (.t 27), (some (26, false)), [], false⟩,
          ⟨(some 29), .bin .neq (.t 28) (.k (.int .i64 1)), (some (26, false)), [], false⟩,
          ⟨(some 30), .pick (.t 26) (.k (.bool true)) (.t 29), none, [], false⟩])
        (.cond (.t 30) (.seq (.reg [
            ⟨(some 4), .mv (.k (.bool false)), none, [], false⟩])
          (.ret))
         (.skip))))
      (.seq (.reg [
         ⟨(some 31), .mv (.t 0), none, [], false⟩,
         ⟨(some 32), .mv (.t 0), none, [], false⟩,
         ⟨(some 33), .lenv false (.t 32), none, [], false⟩,
         ⟨(some 34), .mnx false (.t 33) [(.k (.int .i64 8))], none, [], false⟩,
         ⟨(some 35), .slc 20 (.t 31) none (some (.t 34)), none, [], false⟩,
         ⟨(some 0), .mv (.t 35), none, [], false⟩])
       (.seq (.reg [
          ⟨(some 37), .mv (.t 0), none, [], false⟩,
          ⟨(some 38), .ld1 (.t 3), none, [], false⟩,
          ⟨(some 39), .call (.k (.fn 28 [])) [(.t 37), (.t 38)], none, [], false⟩,
          ⟨(some 36), .mv (.t 39), none, [], false⟩,
          ⟨(some 40), .ext (.t 36) 0, none, [], false⟩,
          ⟨(some 41), .ext (.t 36) 1, none, [], false⟩,
          ⟨(some 8), .mv (.t 40), none, [], false⟩,
          ⟨(some 9), .mv (.t 41), none, [], false⟩])
        (.seq (.seq (.reg [
            ⟨(some 42), .mv (.t 9), none, [], false⟩,
            ⟨(some 43), .bin .neq (.t 42) (.k (.int .i64 0)), none, [], false⟩])
          (.cond (.t 43) (.seq (.reg [
              ⟨(some 44), .mv (.t 8), none, [], false⟩,
              ⟨(some 45), .lenv false (.t 44), none, [], false⟩,
              ⟨(some 46), .bin .eql (.t 45) (.k (.int .i64 0)), none, [], false⟩,
              ⟨(some 4), .mv (.t 46), none, [], false⟩])
            (.ret))
           (.skip)))
         (.seq (.reg [
            ⟨(some 47), .mkf 29 [(.t 3)], none, [], false⟩,
            ⟨(some 10), .new [.nf], none, [], false⟩,
            ⟨none, .st 1 (.t 10) (.t 47), none, [], false⟩])
          (.seq (.seq (.reg [
              ⟨(some 48), .mv (.t 8), none, [], false⟩,
              ⟨(some 49), .lenv false (.t 48), none, [], false⟩,
              ⟨(some 50), .mv (.k (.int .i64 0)), none, [], false⟩])
            (.blk 0 (.loop (.seq (.reg [
                 ⟨(some 51), .bin .lss (.t 50) (.t 49), none, [], false⟩])
               (.seq (.cond (.t 51) (.skip)
                 (.exit 0))
                (.seq (.blk 1 (.seq (.reg [
                     ⟨(some 52), .mv (.t 50), none, [], false⟩,
                     ⟨(some 53), .iad 20 (.t 48) (.t 50), none, [], false⟩,
                     ⟨(some 54), .ldn 20 (.t 53), none, [], false⟩,
                     ⟨(some 12), .new [.int .i64 0, .int .i64 0, .int .i64 0, .int .i64 0, .int .i64 0, .int .i64 0, .int .i64 0, .int .i64 0, .int .i64 0, .int .i64 0, .int .i64 0, .int .i64 0, .int .i64 0, .int .i64 0, .int .i64 0, .int .i64 0, .int .i64 0, .int .i64 0, .int .i64 0, .int .i64 0], none, [], false⟩,
                     ⟨(some 11), .mv (.t 52), none, [], false⟩,
                     ⟨none, .st 20 (.t 12) (.t 54), none, [], false⟩])
                   (.seq (.reg [
                      ⟨(some 55), .mv (.t 8), none, [], false⟩,
                      ⟨(some 56), .mv (.t 11), none, [], false⟩,
                      ⟨(some 57), .slc 20 (.t 55) none (some (.t 56)), none, [], false⟩,
                      ⟨(some 58), .mkf 32 [(.t 10), (.t 12)], none, [], false⟩,
                      ⟨(some 59), .call (.k (.fn 31 [])) [(.t 57), (.t 58)], none, [], false⟩,
                      ⟨(some 60), .mv (.t 59), none, [], false⟩,
                      ⟨(some 61), .mv (.t 0), (some (60, false)), [], false⟩,
                      ⟨(some 62), .ldn 20 (.t 12), (some (60, false)), [], false⟩,
                      ⟨(some 63), .call (.k (.fn 33 [])) [(.t 61), (.t 62)], (some (60, false)), [], false⟩,
                      ⟨(some 64), .un .not (.t 63), (some (60, false)), [], false⟩,
                      ⟨(some 65), .pick (.t 60) (.k (.bool true)) (.t 64), none, [], false⟩])
                    (.cond (.t 65) (.seq (.reg [
                        ⟨(some 4), .mv (.k (.bool false)), none, [], false⟩])
                      (.ret))
                     (.skip)))))
                 (.reg [
                   ⟨(some 66), .bin .add (.t 50) (.k (.int .i64 1)), none, [], false⟩,
                   ⟨(some 50), .mv (.t 66), none, [], false⟩])))))))
           (.seq (.seq (.reg [
               ⟨(some 67), .mv (.t 0), none, [], false⟩,
               ⟨(some 68), .lenv false (.t 67), none, [], false⟩,
               ⟨(some 69), .mv (.k (.int .i64 0)), none, [], false⟩])
             (.blk 2 (.loop (.seq (.reg [
                  ⟨(some 70), .bin .lss (.t 69) (.t 68), none, [], false⟩])
                (.seq (.cond (.t 70) (.skip)
                  (.exit 2))
                 (.seq (.blk 3 (.seq (.reg [
                      ⟨(some 71), .mv (.t 69), none, [], false⟩,
                      ⟨(some 72), .iad 20 (.t 67) (.t 69), none, [], false⟩,
                      ⟨(some 73), .ldn 20 (.t 72), none, [], false⟩,
                      ⟨(some 14), .new [.int .i64 0, .int .i64 0, .int .i64 0, .int .i64 0, .int .i64 0, .int .i64 0, .int .i64 0, .int .i64 0, .int .i64 0, .int .i64 0, .int .i64 0, .int .i64 0, .int .i64 0, .int .i64 0, .int .i64 0, .int .i64 0, .int .i64 0, .int .i64 0, .int .i64 0, .int .i64 0], none, [], false⟩,
                      ⟨(some 13), .mv (.t 71), none, [], false⟩,
                      ⟨none, .st 20 (.t 14) (.t 73), none, [], false⟩])
                    (.seq (.reg [
                       ⟨(some 74), .mv (.t 8), none, [], false⟩,
                       ⟨(some 75), .ldn 20 (.t 14), none, [], false⟩,
                       ⟨(some 76), .call (.k (.fn 33 [])) [(.t 74), (.t 75)], none, [], false⟩,
                       ⟨(some 77), .un .not (.t 76), none, [], false⟩,
                       ⟨(some 78), .mv (.t 77), none, [], false⟩,
                       ⟨(some 79), .mv (.t 0), (some (78, true)), [], false⟩,
                       ⟨(some 80), .mv (.t 13), (some (78, true)), [], false⟩,
                       ⟨(some 81), .slc 20 (.t 79) none (some (.t 80)), (some (78, true)), [], false⟩,
                       ⟨(some 82), .mv (.t 0), (some (78, true)), [], false⟩,
                       ⟨(some 83), .mv (.t 13), (some (78, true)), [], false⟩,
                       ⟨(some 84), .bin .add (.t 83) (.k (.int .i64 1)), (some (78, true)), [], false⟩,
                       ⟨(some 85), .slc 20 (.t 82) (some (.t 84)) none, (some (78, true)), [], false⟩,
                       ⟨(some 86), .mks [.sl true 0 0 0 0 0, .sl true 0 0 0 0 0] 1 2 [(0, 1, (.t 81)), (1, 1, (.t 85))], (some (78, true)), [], false⟩,
                       ⟨(some 88), .mkf 35 [(.t 10), (.t 14)], (some (78, true)), [], false⟩,
                       ⟨(some 87), .call (.k (.fn 34 [])) [(.t 86)], (some (78, true)), [], false⟩,
                       ⟨(some 89), .call (.k (.fn 31 [])) [(.t 87), (.t 88)], (some (78, true)), [], false⟩,
                       ⟨(some 90), .un .not (.t 89), (some (78, true)), [], false⟩,
                       ⟨(some 91), .pick (.t 78) (.t 90) (.k (.bool false)), none, [], false⟩])
                     (.cond (.t 91) (.seq (.reg [
                         ⟨(some 4), .mv (.k (.bool false)), none, [], false⟩])
                       (.ret))
                      (.skip)))))
                  (.reg [
                    ⟨(some 92), .bin .add (.t 69) (.k (.int .i64 1)), none, [], false⟩,
                    ⟨(some 69), .mv (.t 92), none, [], false⟩])))))))
            (.seq (.reg [
               ⟨(some 93), .mv (.t 0), none, [], false⟩,
               ⟨(some 94), .lenv false (.t 93), none, [], false⟩,
               ⟨(some 95), .bin .eql (.t 94) (.k (.int .i64 0)), none, [], false⟩,
               ⟨(some 96), .mv (.t 95), none, [], false⟩,
               ⟨(some 97), .mv (.t 8), (some (96, false)), [], false⟩,
               ⟨(some 98), .lenv false (.t 97), (some (96, false)), [], false⟩,
               ⟨(some 99), .bin .gtr (.t 98) (.k (.int .i64 0)), (some (96, false)), [], false⟩,
               ⟨(some 100), .pick (.t 96) (.k (.bool true)) (.t 99), none, [], false⟩,
               ⟨(some 4), .mv (.t 100), none, [], false⟩])
             (.ret))))))))))
/-- skyway/skywaykeep2.course -/
def c36 : CF where
  np := 5
  nt := 107
  res := [.t 10]
  code := .seq (.reg [
      ⟨(some 5), .box (.t 0), none, [], false⟩,
      ⟨(some 6), .box (.t 1), none, [], false⟩,
      ⟨(some 10), .mv (.k (.sl true 0 0 0 0 0)), none, [], false⟩])
    (.seq (.reg [
       ⟨(some 14), .fad 0 (.t 5), none, [], false⟩,
       ⟨(some 15), .ld1 (.t 14), none, [], false⟩,
       ⟨(some 17), .fad 1 (.t 5), none, [], false⟩,
       ⟨(some 18), .ld1 (.t 17), none, [], false⟩,
       ⟨(some 16), .call (.k (.fn 20 [])) [(.t 15), (.k (.int .i64 (-100000))), (.k (.int .i64 100000))], none, [], true⟩,
       ⟨(some 19), .call (.k (.fn 20 [])) [(.t 18), (.k (.int .i64 (-100000))), (.k (.int .i64 100000))], none, [], false⟩,
       ⟨(some 20), .mk [.int .i64 0, .int .i64 0] [(0, 1, (.t 16)), (1, 1, (.t 19))], none, [], false⟩,
       ⟨none, .st 2 (.t 5) (.t 20), none, [], false⟩])
     (.seq (.reg [
        ⟨(some 21), .fad 0 (.t 6), none, [], false⟩,
        ⟨(some 22), .ld1 (.t 21), none, [], false⟩,
        ⟨(some 24), .fad 1 (.t 6), none, [], false⟩,
        ⟨(some 25), .ld1 (.t 24), none, [], false⟩,
        ⟨(some 23), .call (.k (.fn 20 [])) [(.t 22), (.k (.int .i64 (-200))), (.k (.int .i64 200))], none, [], true⟩,
        ⟨(some 26), .call (.k (.fn 20 [])) [(.t 25), (.k (.int .i64 (-200))), (.k (.int .i64 200))], none, [], false⟩,
        ⟨(some 27), .mk [.int .i64 0, .int .i64 0] [(0, 1, (.t 23)), (1, 1, (.t 26))], none, [], false⟩,
        ⟨none, .st 2 (.t 6) (.t 27), none, [], false⟩])
      (.seq (.reg [
         ⟨(some 28), .ldn 2 (.t 5), none, [], false⟩,
         ⟨(some 29), .mks [.int .i64 0, .int .i64 0] 2 1 [(0, 2, (.t 28))], none, [], false⟩,
         ⟨(some 11), .mv (.t 29), none, [], false⟩])
       (.seq (.seq (.reg [
           ⟨(some 30), .mv (.t 4), none, [], false⟩,
           ⟨(some 31), .mv (.k (.int .i64 0)), none, [], false⟩])
         (.blk 0 (.loop (.seq (.reg [
              ⟨(some 32), .bin .lss (.t 31) (.t 30), none, [], false⟩])
            (.seq (.cond (.t 32) (.skip)
              (.exit 0))
             (.seq (.blk 1 (.seq (.reg [
                  ⟨(some 33), .mv (.t 31), none, [], false⟩,
                  ⟨(some 12), .mv (.t 33), none, [], false⟩])
                (.seq (.reg [
                   ⟨(some 34), .fad 0 (.t 5), none, [], false⟩,
                   ⟨(some 35), .ld1 (.t 34), none, [], false⟩,
                   ⟨(some 36), .fad 0 (.t 6), none, [], false⟩,
                   ⟨(some 37), .ld1 (.t 36), none, [], false⟩,
                   ⟨(some 38), .bin .add (.t 35) (.t 37), none, [], false⟩,
                   ⟨(some 39), .fad 1 (.t 5), none, [], false⟩,
                   ⟨(some 40), .ld1 (.t 39), none, [], false⟩,
                   ⟨(some 41), .fad 1 (.t 6), none, [], false⟩,
                   ⟨(some 42), .ld1 (.t 41), none, [], false⟩,
                   ⟨(some 43), .bin .add (.t 40) (.t 42), none, [], false⟩,
                   ⟨(some 44), .mk [.int .i64 0, .int .i64 0] [(0, 1, (.t 38)), (1, 1, (.t 43))], none, [], false⟩,
                   ⟨none, .st 2 (.t 5) (.t 44), none, [], false⟩])
                 (.seq (.reg [
                    ⟨(some 45), .mv (.t 11), none, [], false⟩,
                    ⟨(some 46), .ldn 2 (.t 5), none, [], false⟩,
                    ⟨(some 47), .mks [.int .i64 0, .int .i64 0] 2 1 [(0, 2, (.t 46))], none, [], false⟩,
                    ⟨(some 48), .app 2 16 (.t 45) (.t 47), none, [], false⟩,
                    ⟨(some 11), .mv (.t 48), none, [], false⟩])
                  (.seq (.seq (.reg [
                      ⟨(some 49), .mv (.t 12), none, [], false⟩,
                      ⟨(some 50), .mv (.t 2), none, [], false⟩,
                      ⟨(some 51), .lenv false (.t 50), none, [], false⟩,
                      ⟨(some 52), .bin .geq (.t 49) (.t 51), none, [], false⟩])
                    (.cond (.t 52) (.exit 1)
                     (.skip)))
                   (.seq (.reg [
                      ⟨(some 53), .mv (.t 2), none, [], false⟩,
                      ⟨(some 54), .mv (.t 12), none, [], false⟩,
                      ⟨(some 55), .iad 1 (.t 53) (.t 54), none, [], false⟩,
                      ⟨(some 56), .ld1 (.t 55), none, [], false⟩,
                      ⟨(some 57), .mv (.t 3), none, [], false⟩,
                      ⟨(some 58), .un .neg (.t 57), none, [], false⟩,
                      ⟨(some 59), .mv (.t 3), none, [], false⟩,
                      ⟨(some 60), .call (.k (.fn 20 [])) [(.t 56), (.t 58), (.t 59)], none, [], false⟩,
                      ⟨(some 13), .mv (.t 60), none, [], false⟩])
                    (.seq (.seq (.reg [
                        ⟨(some 61), .mv (.t 12), none, [], false⟩,
                        ⟨(some 62), .bin .rem (.t 61) (.k (.int .i64 2)), none, [], false⟩,
                        ⟨(some 63), .bin .eql (.t 62) (.k (.int .i64 0)), none, [], false⟩,
                        ⟨(some 64), .mv (.t 63), none, [], false⟩,
                        ⟨(some 65), .fad 0 (.t 6), (some (64, true)), [], false⟩,
                        ⟨(some 66), .ld1 (.t 65), (some (64, true)), [], false⟩,
                        ⟨(some 67), .mv (.t 13), (some (64, true)), [], false⟩,
                        ⟨(some 68), .bin .add (.t 66) (.t 67), (some (64, true)), [], false⟩,
                        ⟨(some 69), .bin .geq (.t 68) (.k (.int .i64 (-200))), (some (64, true)), [], false⟩,
                        ⟨(some 70), .pick (.t 64) (.t 69) (.k (.bool false)), none, [], false⟩,
                        ⟨(some 71), .mv (.t 70), none, [], false⟩,
                        ⟨(some 72), .fad 0 (.t 6), (some (71, true)), [], false⟩,
                        ⟨(some 73), .ld1 (.t 72), (some (71, true)), [], false⟩,
                        ⟨(some 74), .mv (.t 13), (some (71, true)), [], false⟩,
                        ⟨(some 75), .bin .add (.t 73) (.t 74), (some (71, true)), [], false⟩,
                        ⟨(some 76), .bin .leq (.t 75) (.k (.int .i64 200)), (some (71, true)), [], false⟩,
                        ⟨(some 77), .pick (.t 71) (.t 76) (.k (.bool false)), none, [], false⟩])
                      (.cond (.t 77) (.reg [
                         ⟨(some 78), .fad 0 (.t 6), none, [], false⟩,
                         ⟨(some 79), .ld1 (.t 78), none, [], false⟩,
                         ⟨(some 80), .mv (.t 13), none, [], false⟩,
                         ⟨(some 81), .bin .add (.t 79) (.t 80), none, [], false⟩,
                         ⟨(some 82), .fad 0 (.t 6), none, [], false⟩,
                         ⟨none, .st 1 (.t 82) (.t 81), none, [], false⟩])
                       (.skip)))
                     (.seq (.reg [
                        ⟨(some 83), .mv (.t 12), none, [], false⟩,
                        ⟨(some 84), .bin .rem (.t 83) (.k (.int .i64 2)), none, [], false⟩,
                        ⟨(some 85), .bin .eql (.t 84) (.k (.int .i64 1)), none, [], false⟩,
                        ⟨(some 86), .mv (.t 85), none, [], false⟩,
                        ⟨(some 87), .fad 1 (.t 6), (some (86, true)), [], false⟩,
                        ⟨(some 88), .ld1 (.t 87), (some (86, true)), [], false⟩,
                        ⟨(some 89), .mv (.t 13), (some (86, true)), [], false⟩,
                        ⟨(some 90), .bin .add (.t 88) (.t 89), (some (86, true)), [], false⟩,
                        ⟨(some 91), .bin .geq (.t 90) (.k (.int .i64 (-200))), (some (86, true)), [], false⟩,
                        ⟨(some 92), .pick (.t 86) (.t 91) (.k (.bool false)), none, [], false⟩,
                        ⟨(some 93), .mv (.t 92), none, [], false⟩,
                        ⟨(some 94), .fad 1 (.t 6), (some (93, true)), [], false⟩,
                        ⟨(some 95), .ld1 (.t 94), (some (93, true)), [], false⟩,
                        ⟨(some 96), .mv (.t 13), (some (93, true)), [], false⟩,
                        ⟨(some 97), .bin .add (.t 95) (.t 96), (some (93, true)), [], false⟩,
                        ⟨(some 98), .bin .leq (.t 97) (.k (.int .i64 200)), (some (93, true)), [], false⟩,
                        ⟨(some 99), .pick (.t 93) (.t 98) (.k (.bool false)), none, [], false⟩])
                      (.cond (.t 99) (.reg [
                         ⟨(some 100), .fad 1 (.t 6), none, [], false⟩,
                         ⟨(some 101), .ld1 (.t 100), none, [], false⟩,
                         ⟨(some 102), .mv (.t 13), none, [], false⟩,
                         ⟨(some 103), .bin .add (.t 101) (.t 102), none, [], false⟩,
                         ⟨(some 104), .fad 1 (.t 6), none, [], false⟩,
                         ⟨none, .st 1 (.t 104) (.t 103), none, [], false⟩])
                       (.skip))))))))))
              (.reg [
                ⟨(some 105), .bin .add (.t 31) (.k (.int .i64 1)), none, [], false⟩,
                ⟨(some 31), .mv (.t 105), none, [], false⟩])))))))
        (.seq (.reg [
           ⟨(some 106), .mv (.t 11), none, [], false⟩,
           ⟨(some 10), .mv (.t 106), none, [], false⟩])
         (.ret))))))
/-- skyway/skywaykeep2.spotAt -/
def c77 : CF where
  np := 5
  nt := 35
  res := [.cn 6 10]
  code := .seq (.reg [
      ⟨(some 6), .box (.t 1), none, [], false⟩,
      ⟨(some 10), .new [.int .i64 0, .int .i64 0, .int .i64 0, .int .i64 0, .int .i64 0, .int .i64 0], none, [], false⟩])
    (.seq (.reg [
       ⟨(some 11), .mv (.t 0), none, [], false⟩,
       ⟨(some 12), .fad 0 (.t 6), none, [], false⟩,
       ⟨(some 13), .ld1 (.t 12), none, [], false⟩,
       ⟨(some 14), .mv (.t 3), none, [], false⟩,
       ⟨(some 15), .mv (.t 2), none, [], false⟩,
       ⟨(some 16), .un .neg (.t 15), none, [], false⟩,
       ⟨(some 17), .bin .quo (.t 16) (.k (.int .i64 2)), none, [], false⟩,
       ⟨(some 18), .mv (.t 2), none, [], false⟩,
       ⟨(some 19), .bin .quo (.t 18) (.k (.int .i64 2)), none, [], false⟩,
       ⟨(some 22), .fad 1 (.t 6), none, [], false⟩,
       ⟨(some 23), .ld1 (.t 22), none, [], false⟩,
       ⟨(some 24), .mv (.t 4), none, [], false⟩,
       ⟨(some 25), .mv (.t 2), none, [], false⟩,
       ⟨(some 26), .un .neg (.t 25), none, [], false⟩,
       ⟨(some 27), .bin .quo (.t 26) (.k (.int .i64 2)), none, [], false⟩,
       ⟨(some 28), .mv (.t 2), none, [], false⟩,
       ⟨(some 29), .bin .quo (.t 28) (.k (.int .i64 2)), none, [], false⟩,
       ⟨(some 33), .mv (.t 2), none, [], false⟩,
       ⟨(some 20), .call (.k (.fn 20 [])) [(.t 14), (.t 17), (.t 19)], none, [], true⟩,
       ⟨(some 21), .bin .add (.t 13) (.t 20), none, [], false⟩,
       ⟨(some 30), .call (.k (.fn 20 [])) [(.t 24), (.t 27), (.t 29)], none, [], true⟩,
       ⟨(some 31), .bin .add (.t 23) (.t 30), none, [], false⟩,
       ⟨(some 32), .mk [.int .i64 0, .int .i64 0] [(0, 1, (.t 21)), (1, 1, (.t 31))], none, [], false⟩,
       ⟨(some 34), .mk [.int .i64 0, .int .i64 0, .int .i64 0, .int .i64 0, .int .i64 0, .int .i64 0] [(0, 1, (.t 11)), (1, 2, (.t 32)), (3, 1, (.k (.int .i64 5000))), (4, 1, (.k (.int .i64 1234))), (5, 1, (.t 33))], none, [], false⟩,
       ⟨none, .st 6 (.t 10) (.t 34), none, [], false⟩])
     (.ret))
/-- skyway/filter.Begin -/
def c76 : CF where
  np := 1
  nt := 24
  res := [.cn 20 2, .t 3]
  code := .seq (.reg [
      ⟨(some 1), .box (.t 0), none, [], false⟩,
      ⟨(some 2), .new [.int .i64 0, .int .i64 0, .int .i64 0, .int .i64 0, .int .i64 0, .int .i64 0, .int .i64 0, .int .i64 0, .int .i64 0, .int .i64 0, .int .i64 0, .int .i64 0, .int .i64 0, .int .i64 0, .int .i64 0, .int .i64 0, .int .i64 0, .int .i64 0, .int .i64 0, .int .i64 0], none, [], false⟩,
      ⟨(some 3), .mv (.k (.int .i64 0)), none, [], false⟩])
    (.seq (.seq (.reg [
        ⟨(some 5), .ldn 6 (.t 1), none, [], false⟩,
        ⟨(some 6), .call (.k (.fn 99 [])) [(.t 5)], none, [], false⟩,
        ⟨(some 4), .mv (.t 6), none, [], false⟩])
      (.seq (.reg [
         ⟨(some 7), .mv (.t 4), none, [], false⟩,
         ⟨(some 8), .bin .neq (.t 7) (.k (.int .i64 0)), none, [], false⟩])
       (.cond (.t 8) (.seq (.reg [
           ⟨(some 9), .mk [.int .i64 0, .int .i64 0, .int .i64 0, .int .i64 0, .int .i64 0, .int .i64 0, .int .i64 0, .int .i64 0, .int .i64 0, .int .i64 0, .int .i64 0, .int .i64 0, .int .i64 0, .int .i64 0, .int .i64 0, .int .i64 0, .int .i64 0, .int .i64 0, .int .i64 0, .int .i64 0] [], none, [], false⟩,
           ⟨(some 10), .mv (.t 4), none, [], false⟩,
           ⟨none, .st 20 (.t 2) (.t 9), none, [], false⟩,
           ⟨(some 3), .mv (.t 10), none, [], false⟩])
         (.ret))
        (.skip))))
     (.seq (.reg [
        ⟨(some 11), .fad 0 (.t 1), none, [], false⟩,
        ⟨(some 12), .ld1 (.t 11), none, [], false⟩,
        ⟨(some 13), .fad 1 (.t 1), none, [], false⟩,
        ⟨(some 14), .ldn 2 (.t 13), none, [], false⟩,
        ⟨(some 15), .fad 3 (.t 1), none, [], false⟩,
        ⟨(some 16), .ld1 (.t 15), none, [], false⟩,
        ⟨(some 17), .fad 5 (.t 1), none, [], false⟩,
        ⟨(some 18), .ld1 (.t 17), none, [], false⟩,
        ⟨(some 19), .fad 4 (.t 1), none, [], false⟩,
        ⟨(some 20), .ld1 (.t 19), none, [], false⟩,
        ⟨(some 21), .mk [.int .i64 0, .int .i64 0, .int .i64 0, .int .i64 0, .int .i64 0, .int .i64 0, .int .i64 0, .int .i64 0, .int .i64 0, .int .i64 0, .int .i64 0, .int .i64 0, .int .i64 0] [(2, 1, (.t 12)), (3, 2, (.t 14)), (7, 1, (.t 16)), (9, 1, (.t 18)), (10, 1, (.t 20)), (11, 1, (.k (.int .i64 1)))], none, [], false⟩,
        ⟨(some 22), .ldn 6 (.t 1), none, [], false⟩,
        ⟨(some 23), .mk [.int .i64 0, .int .i64 0, .int .i64 0, .int .i64 0, .int .i64 0, .int .i64 0, .int .i64 0, .int .i64 0, .int .i64 0, .int .i64 0, .int .i64 0, .int .i64 0, .int .i64 0, .int .i64 0, .int .i64 0, .int .i64 0, .int .i64 0, .int .i64 0, .int .i64 0, .int .i64 0] [(0, 13, (.t 21)), (13, 1, (.k (.int .i64 6400))), (14, 6, (.t 22))], none, [], false⟩,
        ⟨none, .st 20 (.t 2) (.t 23), none, [], false⟩,
        ⟨(some 3), .mv (.k (.int .i64 0)), none, [], false⟩])
      (.ret)))
/-- skyway/filter.distance -/
def c111 : CF where
  np := 2
  nt := 28
  res := [.t 4]
  code := .seq (.reg [
      ⟨(some 2), .box (.t 0), none, [], false⟩,
      ⟨(some 3), .box (.t 1), none, [], false⟩,
      ⟨(some 4), .mv (.k (.int .i64 0)), none, [], false⟩])
    (.seq (.reg [
       ⟨(some 5), .fad 0 (.t 2), none, [], false⟩,
       ⟨(some 6), .ld1 (.t 5), none, [], false⟩,
       ⟨(some 7), .fad 0 (.t 3), none, [], false⟩,
       ⟨(some 8), .ld1 (.t 7), none, [], false⟩,
       ⟨(some 9), .bin .sub (.t 6) (.t 8), none, [], false⟩,
       ⟨(some 10), .fad 0 (.t 2), none, [], false⟩,
       ⟨(some 11), .ld1 (.t 10), none, [], false⟩,
       ⟨(some 12), .fad 0 (.t 3), none, [], false⟩,
       ⟨(some 13), .ld1 (.t 12), none, [], false⟩,
       ⟨(some 14), .bin .sub (.t 11) (.t 13), none, [], false⟩,
       ⟨(some 15), .bin .mul (.t 9) (.t 14), none, [], false⟩,
       ⟨(some 16), .fad 1 (.t 2), none, [], false⟩,
       ⟨(some 17), .ld1 (.t 16), none, [], false⟩,
       ⟨(some 18), .fad 1 (.t 3), none, [], false⟩,
       ⟨(some 19), .ld1 (.t 18), none, [], false⟩,
       ⟨(some 20), .bin .sub (.t 17) (.t 19), none, [], false⟩,
       ⟨(some 21), .fad 1 (.t 2), none, [], false⟩,
       ⟨(some 22), .ld1 (.t 21), none, [], false⟩,
       ⟨(some 23), .fad 1 (.t 3), none, [], false⟩,
       ⟨(some 24), .ld1 (.t 23), none, [], false⟩,
       ⟨(some 25), .bin .sub (.t 22) (.t 24), none, [], false⟩,
       ⟨(some 26), .bin .mul (.t 20) (.t 25), none, [], false⟩,
       ⟨(some 27), .bin .add (.t 15) (.t 26), none, [], false⟩,
       ⟨(some 4), .mv (.t 27), none, [], false⟩])
     (.ret))
/-- skyway/filter.mix -/
def c112 : CF where
  np := 3
  nt := 15
  res := [.t 6]
  code := .seq (.reg [
      ⟨(some 6), .mv (.k (.int .i64 0)), none, [], false⟩])
    (.seq (.reg [
       ⟨(some 7), .mv (.t 0), none, [], false⟩,
       ⟨(some 8), .mv (.t 1), none, [], false⟩,
       ⟨(some 9), .mv (.t 0), none, [], false⟩,
       ⟨(some 10), .bin .sub (.t 8) (.t 9), none, [], false⟩,
       ⟨(some 11), .mv (.t 2), none, [], false⟩,
       ⟨(some 12), .bin .mul (.t 10) (.t 11), none, [], false⟩,
       ⟨(some 13), .call (.k (.fn 100 [])) [(.t 12), (.k (.int .i64 256))], none, [], false⟩,
       ⟨(some 14), .bin .add (.t 7) (.t 13), none, [], false⟩,
       ⟨(some 6), .mv (.t 14), none, [], false⟩])
     (.ret))
/-- skyway/filter.Update -/
def c78 : CF where
  np := 5
  nt := 245
  res := [.cn 20 10, .t 11]
  code := .seq (.reg [
      ⟨(some 5), .box (.t 0), none, [], false⟩,
      ⟨(some 6), .box (.t 1), none, [], false⟩,
      ⟨(some 10), .new [.int .i64 0, .int .i64 0, .int .i64 0, .int .i64 0, .int .i64 0, .int .i64 0, .int .i64 0, .int .i64 0, .int .i64 0, .int .i64 0, .int .i64 0, .int .i64 0, .int .i64 0, .int .i64 0, .int .i64 0, .int .i64 0, .int .i64 0, .int .i64 0, .int .i64 0, .int .i64 0], none, [], false⟩,
      ⟨(some 11), .mv (.k (.int .i64 0)), none, [], false⟩])
    (.seq (.seq (.reg [
        ⟨(some 21), .ldn 20 (.t 5), none, [], false⟩,
        ⟨(some 22), .call (.k (.fn 64 [])) [(.t 21)], none, [], false⟩,
        ⟨(some 12), .mv (.t 22), none, [], false⟩])
      (.seq (.reg [
         ⟨(some 23), .mv (.t 12), none, [], false⟩,
         ⟨(some 24), .bin .neq (.t 23) (.k (.int .i64 0)), none, [], false⟩])
       (.cond (.t 24) (.seq (.reg [
           ⟨(some 25), .mk [.int .i64 0, .int .i64 0, .int .i64 0, .int .i64 0, .int .i64 0, .int .i64 0, .int .i64 0, .int .i64 0, .int .i64 0, .int .i64 0, .int .i64 0, .int .i64 0, .int .i64 0, .int .i64 0, .int .i64 0, .int .i64 0, .int .i64 0, .int .i64 0, .int .i64 0, .int .i64 0] [], none, [], false⟩,
           ⟨(some 26), .mv (.t 12), none, [], false⟩,
           ⟨none, .st 20 (.t 10) (.t 25), none, [], false⟩,
           ⟨(some 11), .mv (.t 26), none, [], false⟩])
         (.ret))
        (.skip))))
     (.seq (.seq (.reg [
         ⟨(some 27), .ldn 6 (.t 6), none, [], false⟩,
         ⟨(some 28), .call (.k (.fn 99 [])) [(.t 27)], none, [], false⟩,
         ⟨(some 13), .mv (.t 28), none, [], false⟩])
       (.seq (.reg [
          ⟨(some 29), .mv (.t 13), none, [], false⟩,
          ⟨(some 30), .bin .neq (.t 29) (.k (.int .i64 0)), none, [], false⟩])
        (.cond (.t 30) (.seq (.reg [
            ⟨(some 31), .mk [.int .i64 0, .int .i64 0, .int .i64 0, .int .i64 0, .int .i64 0, .int .i64 0, .int .i64 0, .int .i64 0, .int .i64 0, .int .i64 0, .int .i64 0, .int .i64 0, .int .i64 0, .int .i64 0, .int .i64 0, .int .i64 0, .int .i64 0, .int .i64 0, .int .i64 0, .int .i64 0] [], none, [], false⟩,
            ⟨(some 32), .mv (.t 13), none, [], false⟩,
            ⟨none, .st 20 (.t 10) (.t 31), none, [], false⟩,
            ⟨(some 11), .mv (.t 32), none, [], false⟩])
          (.ret))
         (.skip))))
      (.seq (.seq (.reg [
          ⟨(some 33), .mv (.t 3), none, [], false⟩,
          ⟨(some 34), .bin .lss (.t 33) (.k (.int .i64 0)), none, [], false⟩,
          ⟨(some 35), .mv (.t 34), none, [], false⟩,
          ⟨(some 36), .mv (.t 3), (some (35, false)), [], false⟩,
          ⟨(some 37), .bin .gtr (.t 36) (.k (.int .i64 256)), (some (35, false)), [], false⟩,
          ⟨(some 38), .pick (.t 35) (.k (.bool true)) (.t 37), none, [], false⟩,
          ⟨(some 39), .mv (.t 38), none, [], false⟩,
          ⟨(some 40), .mv (.t 4), (some (39, false)), [], false⟩,
          ⟨(some 41), .bin .lss (.t 40) (.k (.int .i64 0)), (some (39, false)), [], false⟩,
          ⟨(some 42), .pick (.t 39) (.k (.bool true)) (.t 41), none, [], false⟩,
          ⟨(some 43), .mv (.t 42), none, [], false⟩,
          ⟨(some 44), .mv (.t 4), (some (43, false)), [], false⟩,
          ⟨(some 45), .bin .gtr (.t 44) (.k (.int .i64 256)), (some (43, false)), [], false⟩,
          ⟨(some 46), .pick (.t 43) (.k (.bool true)) (.t 45), none, [], false⟩])
        (.cond (.t 46) (.seq (.reg [
            ⟨(some 47), .mk [.int .i64 0, .int .i64 0, .int .i64 0, .int .i64 0, .int .i64 0, .int .i64 0, .int .i64 0, .int .i64 0, .int .i64 0, .int .i64 0, .int .i64 0, .int .i64 0, .int .i64 0, .int .i64 0, .int .i64 0, .int .i64 0, .int .i64 0, .int .i64 0, .int .i64 0, .int .i64 0] [], none, [], false⟩,
            ⟨none, .st 20 (.t 10) (.t 47), none, [], false⟩,
            ⟨(some 11), .mv (.k (.int .i64 4)), none, [], false⟩])
          (.ret))
         (.skip)))
       (.seq (.reg [
          ⟨(some 48), .fad 0 (.t 6), none, [], false⟩,
          ⟨(some 49), .ld1 (.t 48), none, [], false⟩,
          ⟨(some 50), .fad 14 (.t 5), none, [], false⟩,
          ⟨(some 51), .fad 0 (.t 50), none, [], false⟩,
          ⟨(some 52), .ld1 (.t 51), none, [], false⟩,
          ⟨(some 53), .bin .sub (.t 49) (.t 52), none, [], false⟩,
          ⟨(some 14), .mv (.t 53), none, [], false⟩])
        (.seq (.seq (.reg [
            ⟨(some 54), .mv (.t 14), none, [], false⟩,
            ⟨(some 55), .bin .leq (.t 54) (.k (.int .i64 0)), none, [], false⟩])
          (.cond (.t 55) (.seq (.reg [
              ⟨(some 56), .mk [.int .i64 0, .int .i64 0, .int .i64 0, .int .i64 0, .int .i64 0, .int .i64 0, .int .i64 0, .int .i64 0, .int .i64 0, .int .i64 0, .int .i64 0, .int .i64 0, .int .i64 0, .int .i64 0, .int .i64 0, .int .i64 0, .int .i64 0, .int .i64 0, .int .i64 0, .int .i64 0] [], none, [], false⟩,
              ⟨none, .st 20 (.t 10) (.t 56), none, [], false⟩,
              ⟨(some 11), .mv (.k (.int .i64 12)), none, [], false⟩])
            (.ret))
           (.skip)))
         (.seq (.reg [
            ⟨(some 58), .ldn 20 (.t 5), none, [], false⟩,
            ⟨(some 59), .fad 0 (.t 6), none, [], false⟩,
            ⟨(some 60), .ld1 (.t 59), none, [], false⟩,
            ⟨(some 61), .mv (.t 2), none, [], false⟩,
            ⟨(some 62), .call (.k (.fn 65 [])) [(.t 58), (.t 60), (.t 61)], none, [], false⟩,
            ⟨(some 57), .mv (.t 62), none, [], false⟩,
            ⟨(some 63), .ext (.t 57) 0, none, [], false⟩,
            ⟨(some 64), .ext (.t 57) 1, none, [], false⟩,
            ⟨(some 15), .new [.int .i64 0, .int .i64 0, .int .i64 0, .int .i64 0, .int .i64 0, .int .i64 0, .int .i64 0, .int .i64 0, .int .i64 0, .int .i64 0, .int .i64 0, .int .i64 0, .int .i64 0, .int .i64 0, .int .i64 0, .int .i64 0, .int .i64 0, .int .i64 0, .int .i64 0, .int .i64 0], none, [], false⟩,
            ⟨none, .st 20 (.t 15) (.t 63), none, [], false⟩,
            ⟨(some 16), .mv (.t 64), none, [], false⟩])
          (.seq (.seq (.reg [
              ⟨(some 65), .mv (.t 16), none, [], false⟩,
              ⟨(some 66), .bin .neq (.t 65) (.k (.int .i64 0)), none, [], false⟩])
            (.cond (.t 66) (.seq (.reg [
                ⟨(some 67), .mk [.int .i64 0, .int .i64 0, .int .i64 0, .int .i64 0, .int .i64 0, .int .i64 0, .int .i64 0, .int .i64 0, .int .i64 0, .int .i64 0, .int .i64 0, .int .i64 0, .int .i64 0, .int .i64 0, .int .i64 0, .int .i64 0, .int .i64 0, .int .i64 0, .int .i64 0, .int .i64 0] [], none, [], false⟩,
                ⟨(some 68), .mv (.t 16), none, [], false⟩,
                ⟨none, .st 20 (.t 10) (.t 67), none, [], false⟩,
                ⟨(some 11), .mv (.t 68), none, [], false⟩])
              (.ret))
             (.skip)))
           (.seq (.reg [
              ⟨(some 69), .fad 0 (.t 15), none, [], false⟩,
              ⟨(some 17), .mv (.t 69), none, [], false⟩])
            (.seq (.seq (.reg [
                ⟨(some 70), .mv (.t 17), none, [], false⟩,
                ⟨(some 71), .nchk (.t 70), none, [], false⟩,
                ⟨(some 72), .fad 9 (.t 71), none, [], false⟩,
                ⟨(some 73), .ld1 (.t 72), none, [], false⟩,
                ⟨(some 74), .fad 5 (.t 6), none, [], false⟩,
                ⟨(some 75), .ld1 (.t 74), none, [], false⟩,
                ⟨(some 76), .bin .add (.t 73) (.t 75), none, [], false⟩,
                ⟨(some 18), .mv (.t 76), none, [], false⟩])
              (.seq (.reg [
                 ⟨(some 77), .mv (.t 17), none, [], false⟩,
                 ⟨(some 78), .nchk (.t 77), none, [], false⟩,
                 ⟨(some 79), .fad 3 (.t 78), none, [], false⟩,
                 ⟨(some 80), .ldn 2 (.t 79), none, [], false⟩,
                 ⟨(some 81), .fad 1 (.t 6), none, [], false⟩,
                 ⟨(some 82), .ldn 2 (.t 81), none, [], false⟩,
                 ⟨(some 84), .mv (.t 18), none, [], false⟩,
                 ⟨(some 85), .mv (.t 18), none, [], false⟩,
                 ⟨(some 86), .bin .mul (.t 84) (.t 85), none, [], false⟩,
                 ⟨(some 83), .call (.k (.fn 111 [])) [(.t 80), (.t 82)], none, [], false⟩,
                 ⟨(some 87), .bin .gtr (.t 83) (.t 86), none, [], false⟩])
               (.cond (.t 87) (.seq (.reg [
                   ⟨(some 88), .mk [.int .i64 0, .int .i64 0, .int .i64 0, .int .i64 0, .int .i64 0, .int .i64 0, .int .i64 0, .int .i64 0, .int .i64 0, .int .i64 0, .int .i64 0, .int .i64 0, .int .i64 0, .int .i64 0, .int .i64 0, .int .i64 0, .int .i64 0, .int .i64 0, .int .i64 0, .int .i64 0] [], none, [], false⟩,
                   ⟨none, .st 20 (.t 10) (.t 88), none, [], false⟩,
                   ⟨(some 11), .mv (.k (.int .i64 8)), none, [], false⟩])
                 (.ret))
                (.skip))))
             (.seq (.reg [
                ⟨(some 89), .mv (.t 17), none, [], false⟩,
                ⟨(some 90), .mv (.t 17), none, [], false⟩,
                ⟨(some 91), .nchk (.t 90), none, [], false⟩,
                ⟨(some 92), .fad 3 (.t 91), none, [], false⟩,
                ⟨(some 93), .fad 0 (.t 92), none, [], false⟩,
                ⟨(some 94), .ld1 (.t 93), none, [], false⟩,
                ⟨(some 95), .fad 1 (.t 6), none, [], false⟩,
                ⟨(some 96), .fad 0 (.t 95), none, [], false⟩,
                ⟨(some 97), .ld1 (.t 96), none, [], false⟩,
                ⟨(some 98), .mv (.t 3), none, [], false⟩,
                ⟨(some 100), .mv (.t 17), none, [], false⟩,
                ⟨(some 101), .nchk (.t 100), none, [], false⟩,
                ⟨(some 102), .fad 3 (.t 101), none, [], false⟩,
                ⟨(some 103), .fad 1 (.t 102), none, [], false⟩,
                ⟨(some 104), .ld1 (.t 103), none, [], false⟩,
                ⟨(some 105), .fad 1 (.t 6), none, [], false⟩,
                ⟨(some 106), .fad 1 (.t 105), none, [], false⟩,
                ⟨(some 107), .ld1 (.t 106), none, [], false⟩,
                ⟨(some 108), .mv (.t 3), none, [], false⟩,
                ⟨(some 99), .call (.k (.fn 112 [])) [(.t 94), (.t 97), (.t 98)], none, [], true⟩,
                ⟨(some 109), .call (.k (.fn 112 [])) [(.t 104), (.t 107), (.t 108)], none, [], false⟩,
                ⟨(some 110), .mk [.int .i64 0, .int .i64 0] [(0, 1, (.t 99)), (1, 1, (.t 109))], none, [], false⟩,
                ⟨(some 111), .nchk (.t 89), none, [], false⟩,
                ⟨(some 112), .fad 3 (.t 111), none, [], false⟩,
                ⟨none, .st 2 (.t 112) (.t 110), none, [], false⟩])
              (.seq (.reg [
                 ⟨(some 113), .mv (.t 17), none, [], false⟩,
                 ⟨(some 114), .mv (.t 3), none, [], false⟩,
                 ⟨(some 115), .bin .sub (.k (.int .i64 256)) (.t 114), none, [], false⟩,
                 ⟨(some 116), .mv (.t 17), none, [], false⟩,
                 ⟨(some 117), .nchk (.t 116), none, [], false⟩,
                 ⟨(some 118), .fad 9 (.t 117), none, [], false⟩,
                 ⟨(some 119), .ld1 (.t 118), none, [], false⟩,
                 ⟨(some 120), .bin .mul (.t 115) (.t 119), none, [], false⟩,
                 ⟨(some 121), .mv (.t 3), none, [], false⟩,
                 ⟨(some 122), .fad 5 (.t 6), none, [], false⟩,
                 ⟨(some 123), .ld1 (.t 122), none, [], false⟩,
                 ⟨(some 124), .bin .mul (.t 121) (.t 123), none, [], false⟩,
                 ⟨(some 125), .bin .add (.t 120) (.t 124), none, [], false⟩,
                 ⟨(some 126), .call (.k (.fn 102 [])) [(.t 125), (.k (.int .i64 256))], none, [], false⟩,
                 ⟨(some 127), .bin .add (.t 126) (.k (.int .i64 2)), none, [], false⟩,
                 ⟨(some 128), .nchk (.t 113), none, [], false⟩,
                 ⟨(some 129), .fad 9 (.t 128), none, [], false⟩,
                 ⟨none, .st 1 (.t 129) (.t 127), none, [], false⟩])
               (.seq (.reg [
                  ⟨(some 130), .fad 1 (.t 6), none, [], false⟩,
                  ⟨(some 131), .fad 0 (.t 130), none, [], false⟩,
                  ⟨(some 132), .ld1 (.t 131), none, [], false⟩,
                  ⟨(some 133), .fad 14 (.t 5), none, [], false⟩,
                  ⟨(some 134), .fad 1 (.t 133), none, [], false⟩,
                  ⟨(some 135), .fad 0 (.t 134), none, [], false⟩,
                  ⟨(some 136), .ld1 (.t 135), none, [], false⟩,
                  ⟨(some 137), .bin .sub (.t 132) (.t 136), none, [], false⟩,
                  ⟨(some 138), .bin .mul (.k (.int .i64 16)) (.t 137), none, [], false⟩,
                  ⟨(some 139), .mv (.t 14), none, [], false⟩,
                  ⟨(some 141), .fad 1 (.t 6), none, [], false⟩,
                  ⟨(some 142), .fad 1 (.t 141), none, [], false⟩,
                  ⟨(some 143), .ld1 (.t 142), none, [], false⟩,
                  ⟨(some 144), .fad 14 (.t 5), none, [], false⟩,
                  ⟨(some 145), .fad 1 (.t 144), none, [], false⟩,
                  ⟨(some 146), .fad 1 (.t 145), none, [], false⟩,
                  ⟨(some 147), .ld1 (.t 146), none, [], false⟩,
                  ⟨(some 148), .bin .sub (.t 143) (.t 147), none, [], false⟩,
                  ⟨(some 149), .bin .mul (.k (.int .i64 16)) (.t 148), none, [], false⟩,
                  ⟨(some 150), .mv (.t 14), none, [], false⟩,
                  ⟨(some 19), .new [.int .i64 0, .int .i64 0], none, [], false⟩,
                  ⟨(some 140), .call (.k (.fn 100 [])) [(.t 138), (.t 139)], none, [], true⟩,
                  ⟨(some 151), .call (.k (.fn 100 [])) [(.t 149), (.t 150)], none, [], false⟩,
                  ⟨(some 152), .mk [.int .i64 0, .int .i64 0] [(0, 1, (.t 140)), (1, 1, (.t 151))], none, [], false⟩,
                  ⟨none, .st 2 (.t 19) (.t 152), none, [], false⟩])
                (.seq (.reg [
                   ⟨(some 153), .fad 5 (.t 6), none, [], false⟩,
                   ⟨(some 154), .ld1 (.t 153), none, [], false⟩,
                   ⟨(some 155), .fad 14 (.t 5), none, [], false⟩,
                   ⟨(some 156), .fad 5 (.t 155), none, [], false⟩,
                   ⟨(some 157), .ld1 (.t 156), none, [], false⟩,
                   ⟨(some 158), .bin .add (.t 154) (.t 157), none, [], false⟩,
                   ⟨(some 159), .bin .mul (.k (.int .i64 16)) (.t 158), none, [], false⟩,
                   ⟨(some 160), .mv (.t 14), none, [], false⟩,
                   ⟨(some 161), .call (.k (.fn 102 [])) [(.t 159), (.t 160)], none, [], false⟩,
                   ⟨(some 162), .mv (.t 2), none, [], false⟩,
                   ⟨(some 163), .bin .mul (.k (.int .i64 16)) (.t 162), none, [], false⟩,
                   ⟨(some 164), .mv (.t 14), none, [], false⟩,
                   ⟨(some 165), .bin .mul (.t 163) (.t 164), none, [], false⟩,
                   ⟨(some 166), .bin .add (.t 161) (.t 165), none, [], false⟩,
                   ⟨(some 167), .bin .add (.t 166) (.k (.int .i64 2)), none, [], false⟩,
                   ⟨(some 20), .mv (.t 167), none, [], false⟩])
                 (.seq (.reg [
                    ⟨(some 168), .mv (.t 17), none, [], false⟩,
                    ⟨(some 169), .mv (.t 17), none, [], false⟩,
                    ⟨(some 170), .nchk (.t 169), none, [], false⟩,
                    ⟨(some 171), .fad 5 (.t 170), none, [], false⟩,
                    ⟨(some 172), .fad 0 (.t 171), none, [], false⟩,
                    ⟨(some 173), .ld1 (.t 172), none, [], false⟩,
                    ⟨(some 174), .fad 0 (.t 19), none, [], false⟩,
                    ⟨(some 175), .ld1 (.t 174), none, [], false⟩,
                    ⟨(some 176), .mv (.t 4), none, [], false⟩,
                    ⟨(some 178), .mv (.t 17), none, [], false⟩,
                    ⟨(some 179), .nchk (.t 178), none, [], false⟩,
                    ⟨(some 180), .fad 5 (.t 179), none, [], false⟩,
                    ⟨(some 181), .fad 1 (.t 180), none, [], false⟩,
                    ⟨(some 182), .ld1 (.t 181), none, [], false⟩,
                    ⟨(some 183), .fad 1 (.t 19), none, [], false⟩,
                    ⟨(some 184), .ld1 (.t 183), none, [], false⟩,
                    ⟨(some 185), .mv (.t 4), none, [], false⟩,
                    ⟨(some 177), .call (.k (.fn 112 [])) [(.t 173), (.t 175), (.t 176)], none, [], true⟩,
                    ⟨(some 186), .call (.k (.fn 112 [])) [(.t 182), (.t 184), (.t 185)], none, [], false⟩,
                    ⟨(some 187), .mk [.int .i64 0, .int .i64 0] [(0, 1, (.t 177)), (1, 1, (.t 186))], none, [], false⟩,
                    ⟨(some 188), .nchk (.t 168), none, [], false⟩,
                    ⟨(some 189), .fad 5 (.t 188), none, [], false⟩,
                    ⟨none, .st 2 (.t 189) (.t 187), none, [], false⟩])
                  (.seq (.reg [
                     ⟨(some 190), .mv (.t 4), none, [], false⟩,
                     ⟨(some 191), .bin .sub (.k (.int .i64 256)) (.t 190), none, [], false⟩,
                     ⟨(some 192), .fad 13 (.t 15), none, [], false⟩,
                     ⟨(some 193), .ld1 (.t 192), none, [], false⟩,
                     ⟨(some 194), .bin .mul (.t 191) (.t 193), none, [], false⟩,
                     ⟨(some 195), .mv (.t 4), none, [], false⟩,
                     ⟨(some 196), .mv (.t 20), none, [], false⟩,
                     ⟨(some 197), .bin .mul (.t 195) (.t 196), none, [], false⟩,
                     ⟨(some 198), .bin .add (.t 194) (.t 197), none, [], false⟩,
                     ⟨(some 199), .call (.k (.fn 102 [])) [(.t 198), (.k (.int .i64 256))], none, [], false⟩,
                     ⟨(some 200), .bin .add (.t 199) (.k (.int .i64 2)), none, [], false⟩,
                     ⟨(some 201), .fad 13 (.t 15), none, [], false⟩,
                     ⟨none, .st 1 (.t 201) (.t 200), none, [], false⟩])
                   (.seq (.reg [
                      ⟨(some 202), .mv (.t 17), none, [], false⟩,
                      ⟨(some 203), .fad 3 (.t 6), none, [], false⟩,
                      ⟨(some 204), .ld1 (.t 203), none, [], false⟩,
                      ⟨(some 205), .fad 14 (.t 5), none, [], false⟩,
                      ⟨(some 206), .fad 3 (.t 205), none, [], false⟩,
                      ⟨(some 207), .ld1 (.t 206), none, [], false⟩,
                      ⟨(some 208), .bin .sub (.t 204) (.t 207), none, [], false⟩,
                      ⟨(some 209), .bin .mul (.k (.int .i64 16)) (.t 208), none, [], false⟩,
                      ⟨(some 210), .mv (.t 14), none, [], false⟩,
                      ⟨(some 211), .call (.k (.fn 100 [])) [(.t 209), (.t 210)], none, [], false⟩,
                      ⟨(some 212), .call (.k (.fn 101 [])) [(.t 211), (.k (.int .i64 (-3200))), (.k (.int .i64 3200))], none, [], false⟩,
                      ⟨(some 213), .nchk (.t 202), none, [], false⟩,
                      ⟨(some 214), .fad 8 (.t 213), none, [], false⟩,
                      ⟨none, .st 1 (.t 214) (.t 212), none, [], false⟩])
                    (.seq (.reg [
                       ⟨(some 215), .mv (.t 17), none, [], false⟩,
                       ⟨(some 216), .fad 3 (.t 6), none, [], false⟩,
                       ⟨(some 217), .ld1 (.t 216), none, [], false⟩,
                       ⟨(some 218), .nchk (.t 215), none, [], false⟩,
                       ⟨(some 219), .fad 7 (.t 218), none, [], false⟩,
                       ⟨none, .st 1 (.t 219) (.t 217), none, [], false⟩])
                     (.seq (.seq (.reg [
                         ⟨(some 220), .fad 4 (.t 6), none, [], false⟩,
                         ⟨(some 221), .ld1 (.t 220), none, [], false⟩,
                         ⟨(some 222), .bin .geq (.t 221) (.k (.int .i64 0)), none, [], false⟩])
                       (.cond (.t 222) (.reg [
                          ⟨(some 223), .mv (.t 17), none, [], false⟩,
                          ⟨(some 224), .fad 4 (.t 6), none, [], false⟩,
                          ⟨(some 225), .ld1 (.t 224), none, [], false⟩,
                          ⟨(some 226), .nchk (.t 223), none, [], false⟩,
                          ⟨(some 227), .fad 10 (.t 226), none, [], false⟩,
                          ⟨none, .st 1 (.t 227) (.t 225), none, [], false⟩])
                        (.skip)))
                      (.seq (.reg [
                         ⟨(some 228), .mv (.t 17), none, [], false⟩,
                         ⟨(some 229), .nchk (.t 228), none, [], false⟩,
                         ⟨(some 230), .fad 11 (.t 229), none, [], false⟩,
                         ⟨(some 231), .ld1 (.t 230), none, [], false⟩,
                         ⟨(some 232), .bin .add (.t 231) (.k (.int .i64 1)), none, [], false⟩,
                         ⟨(some 233), .nchk (.t 228), none, [], false⟩,
                         ⟨(some 234), .fad 11 (.t 233), none, [], false⟩,
                         ⟨none, .st 1 (.t 234) (.t 232), none, [], false⟩])
                       (.seq (.reg [
                          ⟨(some 235), .mv (.t 17), none, [], false⟩,
                          ⟨(some 236), .nchk (.t 235), none, [], false⟩,
                          ⟨(some 237), .fad 12 (.t 236), none, [], false⟩,
                          ⟨none, .st 1 (.t 237) (.k (.int .i64 0)), none, [], false⟩])
                        (.seq (.reg [
                           ⟨(some 238), .ldn 6 (.t 6), none, [], false⟩,
                           ⟨(some 239), .fad 14 (.t 15), none, [], false⟩,
                           ⟨none, .st 6 (.t 239) (.t 238), none, [], false⟩])
                         (.seq (.seq (.reg [
                             ⟨(some 240), .ldn 20 (.t 15), none, [], false⟩,
                             ⟨(some 241), .call (.k (.fn 64 [])) [(.t 240)], none, [], false⟩,
                             ⟨(some 242), .bin .neq (.t 241) (.k (.int .i64 0)), none, [], false⟩])
                           (.cond (.t 242) (.seq (.reg [
                               ⟨(some 243), .mk [.int .i64 0, .int .i64 0, .int .i64 0, .int .i64 0, .int .i64 0, .int .i64 0, .int .i64 0, .int .i64 0, .int .i64 0, .int .i64 0, .int .i64 0, .int .i64 0, .int .i64 0, .int .i64 0, .int .i64 0, .int .i64 0, .int .i64 0, .int .i64 0, .int .i64 0, .int .i64 0] [], none, [], false⟩,
                               ⟨none, .st 20 (.t 10) (.t 243), none, [], false⟩,
                               ⟨(some 11), .mv (.k (.int .i64 8)), none, [], false⟩])
                             (.ret))
                            (.skip)))
                          (.seq (.reg [
                             ⟨(some 244), .ldn 20 (.t 15), none, [], false⟩,
                             ⟨none, .st 20 (.t 10) (.t 244), none, [], false⟩,
                             ⟨(some 11), .mv (.k (.int .i64 0)), none, [], false⟩])
                           (.ret))))))))))))))))))))))))
/-- skyway/skywaykeep2.follow -/
def c37 : CF where
  np := 7
  nt := 89
  res := [.cn 20 14, .t 15, .t 16]
  code := .seq (.reg [
      ⟨(some 14), .new [.int .i64 0, .int .i64 0, .int .i64 0, .int .i64 0, .int .i64 0, .int .i64 0, .int .i64 0, .int .i64 0, .int .i64 0, .int .i64 0, .int .i64 0, .int .i64 0, .int .i64 0, .int .i64 0, .int .i64 0, .int .i64 0, .int .i64 0, .int .i64 0, .int .i64 0, .int .i64 0], none, [], false⟩,
      ⟨(some 15), .mv (.k (.int .i64 0)), none, [], false⟩,
      ⟨(some 16), .mv (.k (.bool false)), none, [], false⟩])
    (.seq (.reg [
       ⟨(some 27), .mv (.t 0), none, [], false⟩,
       ⟨(some 28), .iad 2 (.t 27) (.k (.int .i64 0)), none, [], false⟩,
       ⟨(some 29), .ldn 2 (.t 28), none, [], false⟩,
       ⟨(some 30), .mv (.t 2), none, [], false⟩,
       ⟨(some 31), .call (.k (.fn 77 [])) [(.k (.int .i64 0)), (.t 29), (.t 30), (.k (.int .i64 0)), (.k (.int .i64 0))], none, [], false⟩,
       ⟨(some 32), .call (.k (.fn 76 [])) [(.t 31)], none, [], false⟩,
       ⟨(some 26), .mv (.t 32), none, [], false⟩,
       ⟨(some 33), .ext (.t 26) 0, none, [], false⟩,
       ⟨(some 34), .ext (.t 26) 1, none, [], false⟩,
       ⟨(some 17), .new [.int .i64 0, .int .i64 0, .int .i64 0, .int .i64 0, .int .i64 0, .int .i64 0, .int .i64 0, .int .i64 0, .int .i64 0, .int .i64 0, .int .i64 0, .int .i64 0, .int .i64 0, .int .i64 0, .int .i64 0, .int .i64 0, .int .i64 0, .int .i64 0, .int .i64 0, .int .i64 0], none, [], false⟩,
       ⟨none, .st 20 (.t 17) (.t 33), none, [], false⟩,
       ⟨(some 18), .mv (.t 34), none, [], false⟩])
     (.seq (.seq (.reg [
         ⟨(some 35), .mv (.t 18), none, [], false⟩,
         ⟨(some 36), .bin .neq (.t 35) (.k (.int .i64 0)), none, [], false⟩])
       (.cond (.t 36) (.seq (.reg [
           ⟨(some 37), .ldn 20 (.t 17), none, [], false⟩,
           ⟨none, .st 20 (.t 14) (.t 37), none, [], false⟩,
           ⟨(some 15), .mv (.k (.int .i64 0)), none, [], false⟩,
           ⟨(some 16), .mv (.k (.bool false)), none, [], false⟩])
         (.ret))
        (.skip)))
      (.seq (.reg [
         ⟨(some 19), .mv (.k (.int .i64 0)), none, [], false⟩])
       (.seq (.seq (.reg [
           ⟨(some 38), .mv (.t 1), none, [], false⟩,
           ⟨(some 20), .mv (.t 38), none, [], false⟩])
         (.blk 0 (.loop (.seq (.seq (.reg [
               ⟨(some 39), .mv (.t 20), none, [], false⟩,
               ⟨(some 40), .mv (.t 0), none, [], false⟩,
               ⟨(some 41), .lenv false (.t 40), none, [], false⟩,
               ⟨(some 42), .bin .lss (.t 39) (.t 41), none, [], false⟩])
             (.cond (.t 42) (.skip)
              (.exit 0)))
            (.seq (.blk 1 (.seq (.reg [
                 ⟨(some 21), .mv (.k (.int .i64 0)), none, [], false⟩,
                 ⟨(some 22), .mv (.k (.int .i64 0)), none, [], false⟩])
               (.seq (.seq (.reg [
                   ⟨(some 46), .mv (.t 20), none, [], false⟩,
                   ⟨(some 47), .mv (.t 1), none, [], false⟩,
                   ⟨(some 48), .bin .quo (.t 46) (.t 47), none, [], false⟩,
                   ⟨(some 49), .bin .mul (.t 48) (.k (.int .i64 2)), none, [], false⟩,
                   ⟨(some 23), .mv (.t 49), none, [], false⟩])
                 (.seq (.reg [
                    ⟨(some 50), .mv (.t 23), none, [], false⟩,
                    ⟨(some 51), .bin .add (.t 50) (.k (.int .i64 1)), none, [], false⟩,
                    ⟨(some 52), .mv (.t 6), none, [], false⟩,
                    ⟨(some 53), .lenv false (.t 52), none, [], false⟩,
                    ⟨(some 54), .bin .lss (.t 51) (.t 53), none, [], false⟩])
                  (.cond (.t 54) (.reg [
                     ⟨(some 55), .mv (.t 6), none, [], false⟩,
                     ⟨(some 56), .mv (.t 23), none, [], false⟩,
                     ⟨(some 57), .iad 1 (.t 55) (.t 56), none, [], false⟩,
                     ⟨(some 58), .ld1 (.t 57), none, [], false⟩,
                     ⟨(some 59), .mv (.t 6), none, [], false⟩,
                     ⟨(some 60), .mv (.t 23), none, [], false⟩,
                     ⟨(some 61), .bin .add (.t 60) (.k (.int .i64 1)), none, [], false⟩,
                     ⟨(some 62), .iad 1 (.t 59) (.t 61), none, [], false⟩,
                     ⟨(some 63), .ld1 (.t 62), none, [], false⟩,
                     ⟨(some 21), .mv (.t 58), none, [], false⟩,
                     ⟨(some 22), .mv (.t 63), none, [], false⟩])
                   (.skip))))
                (.seq (.reg [
                   ⟨(some 65), .ldn 20 (.t 17), none, [], false⟩,
                   ⟨(some 66), .mv (.t 20), none, [], false⟩,
                   ⟨(some 67), .mv (.t 0), none, [], false⟩,
                   ⟨(some 68), .mv (.t 20), none, [], false⟩,
                   ⟨(some 69), .iad 2 (.t 67) (.t 68), none, [], false⟩,
                   ⟨(some 70), .ldn 2 (.t 69), none, [], false⟩,
                   ⟨(some 71), .mv (.t 2), none, [], false⟩,
                   ⟨(some 72), .mv (.t 21), none, [], false⟩,
                   ⟨(some 73), .mv (.t 22), none, [], false⟩,
                   ⟨(some 75), .mv (.t 3), none, [], false⟩,
                   ⟨(some 76), .mv (.t 4), none, [], false⟩,
                   ⟨(some 77), .mv (.t 5), none, [], false⟩,
                   ⟨(some 24), .new [.int .i64 0, .int .i64 0, .int .i64 0, .int .i64 0, .int .i64 0, .int .i64 0, .int .i64 0, .int .i64 0, .int .i64 0, .int .i64 0, .int .i64 0, .int .i64 0, .int .i64 0, .int .i64 0, .int .i64 0, .int .i64 0, .int .i64 0, .int .i64 0, .int .i64 0, .int .i64 0], none, [], false⟩,
                   ⟨(some 74), .call (.k (.fn 77 [])) [(.t 66), (.t 70), (.t 71), (.t 72), (.t 73)], none, [], true⟩,
                   ⟨(some 78), .call (.k (.fn 78 [])) [(.t 65), (.t 74), (.t 75), (.t 76), (.t 77)], none, [], false⟩,
                   ⟨(some 64), .mv (.t 78), none, [], false⟩,
                   ⟨(some 79), .ext (.t 64) 0, none, [], false⟩,
                   ⟨(some 80), .ext (.t 64) 1, none, [], false⟩,
                   ⟨none, .st 20 (.t 24) (.t 79), none, [], false⟩,
                   ⟨(some 25), .mv (.t 80), none, [], false⟩])
                 (.seq (.seq (.reg [
                     ⟨(some 81), .mv (.t 25), none, [], false⟩,
                     ⟨(some 82), .bin .neq (.t 81) (.k (.int .i64 0)), none, [], false⟩])
                   (.cond (.t 82) (.seq (.reg [
                       ⟨(some 83), .ldn 20 (.t 17), none, [], false⟩,
                       ⟨(some 84), .mv (.t 19), none, [], false⟩,
                       ⟨none, .st 20 (.t 14) (.t 83), none, [], false⟩,
                       ⟨(some 15), .mv (.t 84), none, [], false⟩,
                       ⟨(some 16), .mv (.k (.bool false)), none, [], false⟩])
                     (.ret))
                    (.skip)))
                  (.reg [
                    ⟨(some 85), .ldn 20 (.t 24), none, [], false⟩,
                    ⟨(some 86), .mv (.t 20), none, [], false⟩,
                    ⟨none, .st 20 (.t 17) (.t 85), none, [], false⟩,
                    ⟨(some 19), .mv (.t 86), none, [], false⟩]))))))
             (.reg [
               ⟨(some 43), .mv (.t 20), none, [], false⟩,
               ⟨(some 44), .mv (.t 1), none, [], false⟩,
               ⟨(some 45), .bin .add (.t 43) (.t 44), none, [], false⟩,
               ⟨(some 20), .mv (.t 45), none, [], false⟩]))))))
        (.seq (.reg [
           ⟨(some 87), .ldn 20 (.t 17), none, [], false⟩,
           ⟨(some 88), .mv (.t 19), none, [], false⟩,
           ⟨none, .st 20 (.t 14) (.t 87), none, [], false⟩,
           ⟨(some 15), .mv (.t 88), none, [], false⟩,
           ⟨(some 16), .mv (.k (.bool true)), none, [], false⟩])
         (.ret))))))
/-- skyway/skywaykeep2.square -/
def c38 : CF where
  np := 2
  nt := 28
  res := [.t 4]
  code := .seq (.reg [
      ⟨(some 2), .box (.t 0), none, [], false⟩,
      ⟨(some 3), .box (.t 1), none, [], false⟩,
      ⟨(some 4), .mv (.k (.int .i64 0)), none, [], false⟩])
    (.seq (.reg [
       ⟨(some 5), .fad 0 (.t 2), none, [], false⟩,
       ⟨(some 6), .ld1 (.t 5), none, [], false⟩,
       ⟨(some 7), .fad 0 (.t 3), none, [], false⟩,
       ⟨(some 8), .ld1 (.t 7), none, [], false⟩,
       ⟨(some 9), .bin .sub (.t 6) (.t 8), none, [], false⟩,
       ⟨(some 10), .fad 0 (.t 2), none, [], false⟩,
       ⟨(some 11), .ld1 (.t 10), none, [], false⟩,
       ⟨(some 12), .fad 0 (.t 3), none, [], false⟩,
       ⟨(some 13), .ld1 (.t 12), none, [], false⟩,
       ⟨(some 14), .bin .sub (.t 11) (.t 13), none, [], false⟩,
       ⟨(some 15), .bin .mul (.t 9) (.t 14), none, [], false⟩,
       ⟨(some 16), .fad 1 (.t 2), none, [], false⟩,
       ⟨(some 17), .ld1 (.t 16), none, [], false⟩,
       ⟨(some 18), .fad 1 (.t 3), none, [], false⟩,
       ⟨(some 19), .ld1 (.t 18), none, [], false⟩,
       ⟨(some 20), .bin .sub (.t 17) (.t 19), none, [], false⟩,
       ⟨(some 21), .fad 1 (.t 2), none, [], false⟩,
       ⟨(some 22), .ld1 (.t 21), none, [], false⟩,
       ⟨(some 23), .fad 1 (.t 3), none, [], false⟩,
       ⟨(some 24), .ld1 (.t 23), none, [], false⟩,
       ⟨(some 25), .bin .sub (.t 22) (.t 24), none, [], false⟩,
       ⟨(some 26), .bin .mul (.t 20) (.t 25), none, [], false⟩,
       ⟨(some 27), .bin .add (.t 15) (.t 26), none, [], false⟩,
       ⟨(some 4), .mv (.t 27), none, [], false⟩])
     (.ret))
/-- skyway/skywaykeep2.AlertNeverLate -/
def c9 : CF where
  np := 10
  nt := 170
  res := [.t 20]
  code := .seq (.reg [
      ⟨(some 10), .box (.t 0), none, [], false⟩,
      ⟨(some 11), .box (.t 1), none, [], false⟩,
      ⟨(some 12), .box (.t 2), none, [], false⟩,
      ⟨(some 13), .box (.t 3), none, [], false⟩,
      ⟨(some 19), .box (.t 9), none, [], false⟩,
      ⟨(some 20), .mv (.k (.bool false)), none, [], false⟩])
    (.seq (.reg [
       ⟨(some 38), .mk [.int .i64 0, .int .i64 0] [(0, 1, (.k (.int .i64 10))), (1, 1, (.k (.int .i64 1000)))], none, [], false⟩,
       ⟨(some 21), .new [.int .i64 0, .int .i64 0], none, [], false⟩,
       ⟨none, .st 2 (.t 21) (.t 38), none, [], false⟩])
     (.seq (.reg [
        ⟨(some 39), .mk [.int .i64 0, .int .i64 0] [(0, 1, (.k (.int .i64 100000)))], none, [], false⟩,
        ⟨(some 40), .mk [.int .i64 0, .int .i64 0, .int .i64 0, .int .i64 0, .int .i64 0, .int .i64 0, .int .i64 0, .int .i64 0, .int .i64 0, .int .i64 0, .int .i64 0, .int .i64 0, .int .i64 0] [(3, 2, (.t 39))], none, [], false⟩,
        ⟨(some 41), .mk [.int .i64 0, .int .i64 0, .int .i64 0, .int .i64 0, .int .i64 0, .int .i64 0, .int .i64 0, .int .i64 0, .int .i64 0, .int .i64 0, .int .i64 0, .int .i64 0, .int .i64 0, .int .i64 0, .int .i64 0, .int .i64 0, .int .i64 0, .int .i64 0, .int .i64 0, .int .i64 0] [(0, 13, (.t 40))], none, [], false⟩,
        ⟨(some 22), .new [.int .i64 0, .int .i64 0, .int .i64 0, .int .i64 0, .int .i64 0, .int .i64 0, .int .i64 0, .int .i64 0, .int .i64 0, .int .i64 0, .int .i64 0, .int .i64 0, .int .i64 0, .int .i64 0, .int .i64 0, .int .i64 0, .int .i64 0, .int .i64 0, .int .i64 0, .int .i64 0], none, [], false⟩,
        ⟨none, .st 20 (.t 22) (.t 41), none, [], false⟩])
      (.seq (.seq (.reg [
          ⟨(some 43), .mk [.int .i64 0, .int .i64 0, .int .i64 0, .int .i64 0, .int .i64 0, .int .i64 0, .int .i64 0, .int .i64 0, .int .i64 0, .int .i64 0, .int .i64 0, .int .i64 0, .int .i64 0, .int .i64 0, .int .i64 0, .int .i64 0, .int .i64 0, .int .i64 0, .int .i64 0, .int .i64 0] [], none, [], false⟩,
          ⟨(some 44), .mk [.int .i64 0, .int .i64 0, .int .i64 0, .int .i64 0, .int .i64 0, .int .i64 0, .int .i64 0, .int .i64 0, .int .i64 0, .int .i64 0, .int .i64 0, .int .i64 0, .int .i64 0, .int .i64 0, .int .i64 0, .int .i64 0, .int .i64 0, .int .i64 0, .int .i64 0, .int .i64 0] [], none, [], false⟩,
          ⟨(some 45), .ldn 2 (.t 21), none, [], false⟩,
          ⟨(some 46), .call (.k (.fn 21 [])) [(.t 43), (.t 44), (.t 45), (.k (.int .i64 1)), (.k (.int .i64 0)), (.k (.int .i64 0))], none, [], false⟩,
          ⟨(some 42), .mv (.t 46), none, [], false⟩,
          ⟨(some 47), .ext (.t 42) 0, none, [], false⟩,
          ⟨(some 48), .ext (.t 42) 1, none, [], false⟩,
          ⟨(some 23), .mv (.t 47), none, [], false⟩,
          ⟨(some 24), .mv (.t 48), none, [], false⟩])
        (.seq (.reg [
           ⟨(some 49), .mv (.t 24), none, [], false⟩,
           ⟨(some 50), .bin .neq (.t 49) (.k (.int .i64 0)), none, [], false⟩,
           ⟨(some 51), .mv (.t 50), none, [], false⟩,
           ⟨(some 52), .mv (.t 23), (some (51, false)), [], false⟩,
           ⟨(some 53), .bin .neq (.t 52) (.k (.int .i64 0)), (some (51, false)), [], false⟩,
           ⟨(some 54), .pick (.t 51) (.k (.bool true)) (.t 53), none, [], false⟩])
         (.cond (.t 54) (.seq (.reg [
             ⟨(some 20), .mv (.k (.bool false)), none, [], false⟩])
           (.ret))
          (.skip))))
       (.seq (.seq (.reg [
           ⟨(some 56), .mk [.int .i64 0, .int .i64 0, .int .i64 0, .int .i64 0, .int .i64 0, .int .i64 0, .int .i64 0, .int .i64 0, .int .i64 0, .int .i64 0, .int .i64 0, .int .i64 0, .int .i64 0, .int .i64 0, .int .i64 0, .int .i64 0, .int .i64 0, .int .i64 0, .int .i64 0, .int .i64 0] [], none, [], false⟩,
           ⟨(some 57), .ldn 20 (.t 22), none, [], false⟩,
           ⟨(some 58), .ldn 2 (.t 21), none, [], false⟩,
           ⟨(some 59), .call (.k (.fn 21 [])) [(.t 56), (.t 57), (.t 58), (.k (.int .i64 1)), (.k (.int .i64 0)), (.k (.int .i64 0))], none, [], false⟩,
           ⟨(some 55), .mv (.t 59), none, [], false⟩,
           ⟨(some 60), .ext (.t 55) 0, none, [], false⟩,
           ⟨(some 61), .ext (.t 55) 1, none, [], false⟩,
           ⟨(some 25), .mv (.t 60), none, [], false⟩,
           ⟨(some 26), .mv (.t 61), none, [], false⟩])
         (.seq (.reg [
            ⟨(some 62), .mv (.t 26), none, [], false⟩,
            ⟨(some 63), .bin .neq (.t 62) (.k (.int .i64 8)), none, [], false⟩])
          (.cond (.t 63) (.seq (.reg [
              ⟨(some 20), .mv (.k (.bool false)), none, [], false⟩])
            (.ret))
           (.skip))))
        (.seq (.reg [
           ⟨(some 64), .mv (.t 6), none, [], false⟩,
           ⟨(some 65), .call (.k (.fn 20 [])) [(.t 64), (.k (.int .i64 0)), (.k (.int .i64 3))], none, [], false⟩,
           ⟨(some 66), .mv (.t 7), none, [], false⟩,
           ⟨(some 67), .call (.k (.fn 20 [])) [(.t 66), (.k (.int .i64 1)), (.k (.int .i64 6))], none, [], false⟩,
           ⟨(some 68), .mv (.t 8), none, [], false⟩,
           ⟨(some 69), .call (.k (.fn 20 [])) [(.t 68), (.k (.int .i64 0)), (.k (.int .i64 100))], none, [], false⟩,
           ⟨(some 6), .mv (.t 65), none, [], false⟩,
           ⟨(some 7), .mv (.t 67), none, [], false⟩,
           ⟨(some 8), .mv (.t 69), none, [], false⟩])
         (.seq (.reg [
            ⟨(some 70), .fad 0 (.t 19), none, [], false⟩,
            ⟨(some 71), .ld1 (.t 70), none, [], false⟩,
            ⟨(some 73), .fad 1 (.t 19), none, [], false⟩,
            ⟨(some 74), .ld1 (.t 73), none, [], false⟩,
            ⟨(some 72), .call (.k (.fn 20 [])) [(.t 71), (.k (.int .i64 0)), (.k (.int .i64 10000))], none, [], true⟩,
            ⟨(some 75), .call (.k (.fn 20 [])) [(.t 74), (.k (.int .i64 1)), (.k (.int .i64 2000))], none, [], false⟩,
            ⟨(some 76), .mk [.int .i64 0, .int .i64 0] [(0, 1, (.t 72)), (1, 1, (.t 75))], none, [], false⟩,
            ⟨none, .st 2 (.t 19) (.t 76), none, [], false⟩])
          (.seq (.reg [
             ⟨(some 77), .fad 0 (.t 10), none, [], false⟩,
             ⟨(some 78), .ld1 (.t 77), none, [], false⟩,
             ⟨(some 79), .fad 0 (.t 12), none, [], false⟩,
             ⟨(some 80), .ld1 (.t 79), none, [], false⟩,
             ⟨(some 83), .fad 1 (.t 10), none, [], false⟩,
             ⟨(some 84), .ld1 (.t 83), none, [], false⟩,
             ⟨(some 85), .fad 1 (.t 12), none, [], false⟩,
             ⟨(some 86), .ld1 (.t 85), none, [], false⟩,
             ⟨(some 81), .call (.k (.fn 20 [])) [(.t 80), (.k (.int .i64 (-9000))), (.k (.int .i64 9000))], none, [], true⟩,
             ⟨(some 82), .bin .add (.t 78) (.t 81), none, [], false⟩,
             ⟨(some 87), .call (.k (.fn 20 [])) [(.t 86), (.k (.int .i64 (-9000))), (.k (.int .i64 9000))], none, [], true⟩,
             ⟨(some 88), .bin .add (.t 84) (.t 87), none, [], false⟩,
             ⟨(some 89), .mk [.int .i64 0, .int .i64 0] [(0, 1, (.t 82)), (1, 1, (.t 88))], none, [], false⟩,
             ⟨none, .st 2 (.t 12) (.t 89), none, [], false⟩])
           (.seq (.reg [
              ⟨(some 90), .ldn 2 (.t 10), none, [], false⟩,
              ⟨(some 91), .ldn 2 (.t 11), none, [], false⟩,
              ⟨(some 92), .mv (.t 4), none, [], false⟩,
              ⟨(some 93), .mv (.t 6), none, [], false⟩,
              ⟨(some 95), .ldn 2 (.t 12), none, [], false⟩,
              ⟨(some 96), .ldn 2 (.t 13), none, [], false⟩,
              ⟨(some 97), .mv (.t 5), none, [], false⟩,
              ⟨(some 98), .mv (.t 6), none, [], false⟩,
              ⟨(some 94), .call (.k (.fn 36 [])) [(.t 90), (.t 91), (.t 92), (.t 93), (.k (.int .i64 60))], none, [], true⟩,
              ⟨(some 99), .call (.k (.fn 36 [])) [(.t 95), (.t 96), (.t 97), (.t 98), (.k (.int .i64 60))], none, [], false⟩,
              ⟨(some 27), .mv (.t 94), none, [], false⟩,
              ⟨(some 28), .mv (.t 99), none, [], false⟩])
            (.seq (.reg [
               ⟨(some 101), .mv (.t 27), none, [], false⟩,
               ⟨(some 102), .slc 2 (.t 101) none (some (.k (.int .i64 13))), none, [], false⟩,
               ⟨(some 103), .mv (.t 7), none, [], false⟩,
               ⟨(some 104), .mv (.t 8), none, [], false⟩,
               ⟨(some 105), .mv (.t 6), none, [], false⟩,
               ⟨(some 106), .call (.k (.fn 37 [])) [(.t 102), (.t 103), (.t 104), (.t 105), (.k (.int .i64 128)), (.k (.int .i64 128)), (.k (.sl true 0 0 0 0 0))], none, [], false⟩,
               ⟨(some 100), .mv (.t 106), none, [], false⟩,
               ⟨(some 107), .ext (.t 100) 0, none, [], false⟩,
               ⟨(some 108), .ext (.t 100) 1, none, [], false⟩,
               ⟨(some 109), .ext (.t 100) 2, none, [], false⟩,
               ⟨(some 29), .new [.int .i64 0, .int .i64 0, .int .i64 0, .int .i64 0, .int .i64 0, .int .i64 0, .int .i64 0, .int .i64 0, .int .i64 0, .int .i64 0, .int .i64 0, .int .i64 0, .int .i64 0, .int .i64 0, .int .i64 0, .int .i64 0, .int .i64 0, .int .i64 0, .int .i64 0, .int .i64 0], none, [], false⟩,
               ⟨none, .st 20 (.t 29) (.t 107), none, [], false⟩,
               ⟨(some 30), .mv (.t 108), none, [], false⟩,
               ⟨(some 31), .mv (.t 109), none, [], false⟩])
             (.seq (.reg [
                ⟨(some 111), .mv (.t 28), none, [], false⟩,
                ⟨(some 112), .slc 2 (.t 111) none (some (.k (.int .i64 13))), none, [], false⟩,
                ⟨(some 113), .mv (.t 7), none, [], false⟩,
                ⟨(some 114), .mv (.t 8), none, [], false⟩,
                ⟨(some 115), .mv (.t 6), none, [], false⟩,
                ⟨(some 116), .call (.k (.fn 37 [])) [(.t 112), (.t 113), (.t 114), (.t 115), (.k (.int .i64 128)), (.k (.int .i64 128)), (.k (.sl true 0 0 0 0 0))], none, [], false⟩,
                ⟨(some 110), .mv (.t 116), none, [], false⟩,
                ⟨(some 117), .ext (.t 110) 0, none, [], false⟩,
                ⟨(some 118), .ext (.t 110) 1, none, [], false⟩,
                ⟨(some 119), .ext (.t 110) 2, none, [], false⟩,
                ⟨(some 32), .new [.int .i64 0, .int .i64 0, .int .i64 0, .int .i64 0, .int .i64 0, .int .i64 0, .int .i64 0, .int .i64 0, .int .i64 0, .int .i64 0, .int .i64 0, .int .i64 0, .int .i64 0, .int .i64 0, .int .i64 0, .int .i64 0, .int .i64 0, .int .i64 0, .int .i64 0, .int .i64 0], none, [], false⟩,
                ⟨none, .st 20 (.t 32) (.t 117), none, [], false⟩,
                ⟨(some 33), .mv (.t 118), none, [], false⟩,
                ⟨(some 34), .mv (.t 119), none, [], false⟩])
              (.seq (.seq (.reg [
                  ⟨(some 120), .mv (.t 31), none, [], false⟩,
                  ⟨(some 121), .un .not (.t 120), none, [], false⟩,
                  ⟨(some 122), .mv (.t 121), none, [], false⟩,
                  ⟨(some 123), .mv (.t 34), (some (122, false)), [], false⟩,
                  ⟨(some 124), .un .not (.t 123), (some (122, false)), [], false⟩,
                  ⟨(some 125), .pick (.t 122) (.k (.bool true)) (.t 124), none, [], false⟩])
                (.cond (.t 125) (.seq (.reg [
                    ⟨(some 20), .mv (.k (.bool false)), none, [], false⟩])
                  (.ret))
                 (.skip)))
               (.seq (.reg [
                  ⟨(some 127), .ldn 20 (.t 29), none, [], false⟩,
                  ⟨(some 128), .ldn 20 (.t 32), none, [], false⟩,
                  ⟨(some 129), .ldn 2 (.t 19), none, [], false⟩,
                  ⟨(some 130), .mv (.t 6), none, [], false⟩,
                  ⟨(some 131), .call (.k (.fn 21 [])) [(.t 127), (.t 128), (.t 129), (.k (.int .i64 40)), (.t 130), (.k (.int .i64 0))], none, [], false⟩,
                  ⟨(some 126), .mv (.t 131), none, [], false⟩,
                  ⟨(some 132), .ext (.t 126) 0, none, [], false⟩,
                  ⟨(some 133), .ext (.t 126) 1, none, [], false⟩,
                  ⟨(some 35), .mv (.t 132), none, [], false⟩,
                  ⟨(some 36), .mv (.t 133), none, [], false⟩])
                (.seq (.seq (.reg [
                    ⟨(some 37), .mv (.k (.int .i64 0)), none, [], false⟩])
                  (.blk 0 (.loop (.seq (.seq (.reg [
                        ⟨(some 134), .mv (.t 37), none, [], false⟩,
                        ⟨(some 135), .bin .leq (.t 134) (.k (.int .i64 40)), none, [], false⟩])
                      (.cond (.t 135) (.skip)
                       (.exit 0)))
                     (.seq (.blk 1 (.seq (.reg [
                          ⟨(some 138), .mv (.t 27), none, [], false⟩,
                          ⟨(some 139), .mv (.t 30), none, [], false⟩,
                          ⟨(some 140), .mv (.t 37), none, [], false⟩,
                          ⟨(some 141), .bin .add (.t 139) (.t 140), none, [], false⟩,
                          ⟨(some 142), .iad 2 (.t 138) (.t 141), none, [], false⟩,
                          ⟨(some 143), .ldn 2 (.t 142), none, [], false⟩,
                          ⟨(some 144), .mv (.t 28), none, [], false⟩,
                          ⟨(some 145), .mv (.t 30), none, [], false⟩,
                          ⟨(some 146), .mv (.t 37), none, [], false⟩,
                          ⟨(some 147), .bin .add (.t 145) (.t 146), none, [], false⟩,
                          ⟨(some 148), .iad 2 (.t 144) (.t 147), none, [], false⟩,
                          ⟨(some 149), .ldn 2 (.t 148), none, [], false⟩,
                          ⟨(some 151), .fad 0 (.t 19), none, [], false⟩,
                          ⟨(some 152), .ld1 (.t 151), none, [], false⟩,
                          ⟨(some 153), .fad 0 (.t 19), none, [], false⟩,
                          ⟨(some 154), .ld1 (.t 153), none, [], false⟩,
                          ⟨(some 155), .bin .mul (.t 152) (.t 154), none, [], false⟩,
                          ⟨(some 150), .call (.k (.fn 38 [])) [(.t 143), (.t 149)], none, [], true⟩,
                          ⟨(some 156), .bin .lss (.t 150) (.t 155), none, [], false⟩])
                        (.cond (.t 156) (.seq (.reg [
                            ⟨(some 157), .mv (.t 36), none, [], false⟩,
                            ⟨(some 158), .bin .eql (.t 157) (.k (.int .i64 0)), none, [], false⟩,
                            ⟨(some 159), .mv (.t 158), none, [], false⟩,
                            ⟨(some 160), .mv (.t 35), (some (159, true)), [], false⟩,
                            ⟨(some 161), .mv (.t 37), (some (159, true)), [], false⟩,
                            ⟨(some 162), .bin .leq (.t 160) (.t 161), (some (159, true)), [], false⟩,
                            ⟨(some 163), .pick (.t 159) (.t 162) (.k (.bool false)), none, [], false⟩,
                            ⟨(some 20), .mv (.t 163), none, [], false⟩])
                          (.ret))
                         (.skip))))
                      (.reg [
                        ⟨(some 136), .mv (.t 37), none, [], false⟩,
                        ⟨(some 137), .bin .add (.t 136) (.k (.int .i64 1)), none, [], false⟩,
                        ⟨(some 37), .mv (.t 137), none, [], false⟩]))))))
                 (.seq (.reg [
                    ⟨(some 164), .mv (.t 36), none, [], false⟩,
                    ⟨(some 165), .bin .eql (.t 164) (.k (.int .i64 0)), none, [], false⟩,
                    ⟨(some 166), .mv (.t 165), none, [], false⟩,
                    ⟨(some 167), .mv (.t 36), (some (166, false)), [], false⟩,
                    ⟨(some 168), .bin .eql (.t 167) (.k (.int .i64 8)), (some (166, false)), [], false⟩,
                    ⟨(some 169), .pick (.t 166) (.k (.bool true)) (.t 168), none, [], false⟩,
                    ⟨(some 20), .mv (.t 169), none, [], false⟩])
                  (.ret)))))))))))))))
/-- skyway/terrain.cell -/
def c79 : CF where
  np := 3
  nt := 18
  res := [.t 6]
  code := .seq (.reg [
      ⟨(some 6), .mv (.k (.int .i64 0)), none, [], false⟩])
    (.seq (.reg [
       ⟨(some 10), .mv (.t 0), none, [], false⟩,
       ⟨(some 11), .mv (.t 1), none, [], false⟩,
       ⟨(some 12), .bin .sub (.t 10) (.t 11), none, [], false⟩,
       ⟨(some 13), .mv (.t 2), none, [], false⟩,
       ⟨(some 14), .call (.k (.fn 58 [])) [(.t 12), (.t 13)], none, [], false⟩,
       ⟨(some 9), .mv (.t 14), none, [], false⟩,
       ⟨(some 15), .ext (.t 9) 0, none, [], false⟩,
       ⟨(some 16), .ext (.t 9) 1, none, [], false⟩,
       ⟨(some 7), .mv (.t 15), none, [], false⟩,
       ⟨(some 8), .mv (.t 16), none, [], false⟩])
     (.seq (.reg [
        ⟨(some 17), .mv (.t 7), none, [], false⟩,
        ⟨(some 6), .mv (.t 17), none, [], false⟩])
      (.ret)))
/-- skyway/terrain.Height -/
def c40 : CF where
  np := 2
  nt := 76
  res := [.t 4, .t 5]
  code := .seq (.reg [
      ⟨(some 2), .box (.t 0), none, [], false⟩,
      ⟨(some 3), .box (.t 1), none, [], false⟩,
      ⟨(some 4), .mv (.k (.int .i64 0)), none, [], false⟩,
      ⟨(some 5), .mv (.k (.int .i64 0)), none, [], false⟩])
    (.seq (.seq (.reg [
        ⟨(some 9), .ldn 6 (.t 2), none, [], false⟩,
        ⟨(some 10), .call (.k (.fn 39 [])) [(.t 9)], none, [], false⟩,
        ⟨(some 6), .mv (.t 10), none, [], false⟩])
      (.seq (.reg [
         ⟨(some 11), .mv (.t 6), none, [], false⟩,
         ⟨(some 12), .bin .neq (.t 11) (.k (.int .i64 0)), none, [], false⟩])
       (.cond (.t 12) (.seq (.reg [
           ⟨(some 13), .mv (.t 6), none, [], false⟩,
           ⟨(some 4), .mv (.k (.int .i64 0)), none, [], false⟩,
           ⟨(some 5), .mv (.t 13), none, [], false⟩])
         (.ret))
        (.skip))))
     (.seq (.seq (.reg [
         ⟨(some 14), .fad 0 (.t 3), none, [], false⟩,
         ⟨(some 15), .ld1 (.t 14), none, [], false⟩,
         ⟨(some 16), .bin .lss (.t 15) (.k (.int .i64 (-1000000))), none, [], false⟩,
         ⟨(some 17), .mv (.t 16), none, [], false⟩,
         ⟨(some 18), .fad 0 (.t 3), (some (17, false)), [], false⟩,
         ⟨(some 19), .ld1 (.t 18), (some (17, false)), [], false⟩,
         ⟨(some 20), .bin .gtr (.t 19) (.k (.int .i64 1000000)), (some (17, false)), [], false⟩,
         ⟨(some 21), .pick (.t 17) (.k (.bool true)) (.t 20), none, [], false⟩,
         ⟨(some 22), .mv (.t 21), none, [], false⟩,
         ⟨(some 23), .fad 1 (.t 3), (some (22, false)), [], false⟩,
         ⟨(some 24), .ld1 (.t 23), (some (22, false)), [], false⟩,
         ⟨(some 25), .bin .lss (.t 24) (.k (.int .i64 (-1000000))), (some (22, false)), [], false⟩,
         ⟨(some 26), .pick (.t 22) (.k (.bool true)) (.t 25), none, [], false⟩,
         ⟨(some 27), .mv (.t 26), none, [], false⟩,
         ⟨(some 28), .fad 1 (.t 3), (some (27, false)), [], false⟩,
         ⟨(some 29), .ld1 (.t 28), (some (27, false)), [], false⟩,
         ⟨(some 30), .bin .gtr (.t 29) (.k (.int .i64 1000000)), (some (27, false)), [], false⟩,
         ⟨(some 31), .pick (.t 27) (.k (.bool true)) (.t 30), none, [], false⟩])
       (.cond (.t 31) (.seq (.reg [
           ⟨(some 4), .mv (.k (.int .i64 0)), none, [], false⟩,
           ⟨(some 5), .mv (.k (.int .i64 4)), none, [], false⟩])
         (.ret))
        (.skip)))
      (.seq (.reg [
         ⟨(some 32), .fad 0 (.t 3), none, [], false⟩,
         ⟨(some 33), .ld1 (.t 32), none, [], false⟩,
         ⟨(some 34), .fad 0 (.t 2), none, [], false⟩,
         ⟨(some 35), .fad 0 (.t 34), none, [], false⟩,
         ⟨(some 36), .ld1 (.t 35), none, [], false⟩,
         ⟨(some 37), .fad 2 (.t 2), none, [], false⟩,
         ⟨(some 38), .ld1 (.t 37), none, [], false⟩,
         ⟨(some 40), .fad 1 (.t 3), none, [], false⟩,
         ⟨(some 41), .ld1 (.t 40), none, [], false⟩,
         ⟨(some 42), .fad 0 (.t 2), none, [], false⟩,
         ⟨(some 43), .fad 1 (.t 42), none, [], false⟩,
         ⟨(some 44), .ld1 (.t 43), none, [], false⟩,
         ⟨(some 45), .fad 2 (.t 2), none, [], false⟩,
         ⟨(some 46), .ld1 (.t 45), none, [], false⟩,
         ⟨(some 39), .call (.k (.fn 79 [])) [(.t 33), (.t 36), (.t 38)], none, [], true⟩,
         ⟨(some 47), .call (.k (.fn 79 [])) [(.t 41), (.t 44), (.t 46)], none, [], false⟩,
         ⟨(some 7), .mv (.t 39), none, [], false⟩,
         ⟨(some 8), .mv (.t 47), none, [], false⟩])
       (.seq (.seq (.reg [
           ⟨(some 48), .mv (.t 7), none, [], false⟩,
           ⟨(some 49), .bin .lss (.t 48) (.k (.int .i64 0)), none, [], false⟩,
           ⟨(some 50), .mv (.t 49), none, [], false⟩,
           ⟨(some 51), .mv (.t 7), (some (50, false)), [], false⟩,
           ⟨(some 52), .fad 3 (.t 2), (some (50, false)), [], false⟩,
           ⟨(some 53), .ld1 (.t 52), (some (50, false)), [], false⟩,
           ⟨(some 54), .bin .geq (.t 51) (.t 53), (some (50, false)), [], false⟩,
           ⟨(some 55), .pick (.t 50) (.k (.bool true)) (.t 54), none, [], false⟩,
           ⟨(some 56), .mv (.t 55), none, [], false⟩,
           ⟨(some 57), .mv (.t 8), (some (56, false)), [], false⟩,
           ⟨(some 58), .bin .lss (.t 57) (.k (.int .i64 0)), (some (56, false)), [], false⟩,
           ⟨(some 59), .pick (.t 56) (.k (.bool true)) (.t 58), none, [], false⟩,
           ⟨(some 60), .mv (.t 59), none, [], false⟩,
           ⟨(some 61), .mv (.t 8), (some (60, false)), [], false⟩,
           ⟨(some 62), .fad 4 (.t 2), (some (60, false)), [], false⟩,
           ⟨(some 63), .ld1 (.t 62), (some (60, false)), [], false⟩,
           ⟨(some 64), .bin .geq (.t 61) (.t 63), (some (60, false)), [], false⟩,
           ⟨(some 65), .pick (.t 60) (.k (.bool true)) (.t 64), none, [], false⟩])
         (.cond (.t 65) (.seq (.reg [
             ⟨(some 4), .mv (.k (.int .i64 0)), none, [], false⟩,
             ⟨(some 5), .mv (.k (.int .i64 0)), none, [], false⟩])
           (.ret))
          (.skip)))
        (.seq (.reg [
           ⟨(some 66), .fad 5 (.t 2), none, [], false⟩,
           ⟨(some 67), .ld1 (.t 66), none, [], false⟩,
           ⟨(some 68), .mv (.t 8), none, [], false⟩,
           ⟨(some 69), .fad 3 (.t 2), none, [], false⟩,
           ⟨(some 70), .ld1 (.t 69), none, [], false⟩,
           ⟨(some 71), .bin .mul (.t 68) (.t 70), none, [], false⟩,
           ⟨(some 72), .mv (.t 7), none, [], false⟩,
           ⟨(some 73), .bin .add (.t 71) (.t 72), none, [], false⟩,
           ⟨(some 74), .iad 1 (.t 67) (.t 73), none, [], false⟩,
           ⟨(some 75), .ld1 (.t 74), none, [], false⟩,
           ⟨(some 4), .mv (.t 75), none, [], false⟩,
           ⟨(some 5), .mv (.k (.int .i64 0)), none, [], false⟩])
         (.ret))))))
/-- skyway/skywaykeep2.TerrainNeverLate -/
def c10 : CF where
  np := 7
  nt := 116
  res := [.t 14]
  code := .seq (.reg [
      ⟨(some 7), .box (.t 0), none, [], false⟩,
      ⟨(some 8), .box (.t 1), none, [], false⟩,
      ⟨(some 9), .box (.t 2), none, [], false⟩,
      ⟨(some 14), .mv (.k (.bool false)), none, [], false⟩])
    (.seq (.reg [
       ⟨(some 27), .mk [.int .i64 0, .int .i64 0] [(0, 1, (.k (.int .i64 1600)))], none, [], false⟩,
       ⟨(some 28), .mk [.int .i64 0, .int .i64 0, .int .i64 0, .int .i64 0, .int .i64 0, .int .i64 0, .int .i64 0, .int .i64 0, .int .i64 0, .int .i64 0, .int .i64 0, .int .i64 0, .int .i64 0] [(7, 1, (.k (.int .i64 3000))), (5, 2, (.t 27))], none, [], false⟩,
       ⟨(some 29), .mk [.int .i64 0, .int .i64 0, .int .i64 0, .int .i64 0, .int .i64 0, .int .i64 0, .int .i64 0, .int .i64 0, .int .i64 0, .int .i64 0, .int .i64 0, .int .i64 0, .int .i64 0, .int .i64 0, .int .i64 0, .int .i64 0, .int .i64 0, .int .i64 0, .int .i64 0, .int .i64 0] [(0, 13, (.t 28))], none, [], false⟩,
       ⟨(some 15), .new [.int .i64 0, .int .i64 0, .int .i64 0, .int .i64 0, .int .i64 0, .int .i64 0, .int .i64 0, .int .i64 0, .int .i64 0, .int .i64 0, .int .i64 0, .int .i64 0, .int .i64 0, .int .i64 0, .int .i64 0, .int .i64 0, .int .i64 0, .int .i64 0, .int .i64 0, .int .i64 0], none, [], false⟩,
       ⟨none, .st 20 (.t 15) (.t 29), none, [], false⟩])
     (.seq (.seq (.reg [
         ⟨(some 32), .ldn 20 (.t 15), none, [], false⟩,
         ⟨(some 31), .call (.k (.fn 23 [])) [(.k (.int .i64 3000))], none, [], true⟩,
         ⟨(some 33), .call (.k (.fn 22 [])) [(.t 31), (.t 32), (.k (.int .i64 60)), (.k (.int .i64 0)), (.k (.int .i64 0)), (.k (.int .i64 500))], none, [], false⟩,
         ⟨(some 30), .mv (.t 33), none, [], false⟩,
         ⟨(some 34), .ext (.t 30) 0, none, [], false⟩,
         ⟨(some 35), .ext (.t 30) 1, none, [], false⟩,
         ⟨(some 16), .mv (.t 34), none, [], false⟩,
         ⟨(some 17), .mv (.t 35), none, [], false⟩])
       (.seq (.reg [
          ⟨(some 36), .mv (.t 17), none, [], false⟩,
          ⟨(some 37), .bin .neq (.t 36) (.k (.int .i64 0)), none, [], false⟩,
          ⟨(some 38), .mv (.t 37), none, [], false⟩,
          ⟨(some 39), .mv (.t 16), (some (38, false)), [], false⟩,
          ⟨(some 40), .bin .lss (.t 39) (.k (.int .i64 9)), (some (38, false)), [], false⟩,
          ⟨(some 41), .pick (.t 38) (.k (.bool true)) (.t 40), none, [], false⟩,
          ⟨(some 42), .mv (.t 41), none, [], false⟩,
          ⟨(some 43), .mv (.t 16), (some (42, false)), [], false⟩,
          ⟨(some 44), .bin .gtr (.t 43) (.k (.int .i64 10)), (some (42, false)), [], false⟩,
          ⟨(some 45), .pick (.t 42) (.k (.bool true)) (.t 44), none, [], false⟩])
        (.cond (.t 45) (.seq (.reg [
            ⟨(some 14), .mv (.k (.bool false)), none, [], false⟩])
          (.ret))
         (.skip))))
      (.seq (.reg [
         ⟨(some 46), .mv (.t 4), none, [], false⟩,
         ⟨(some 47), .call (.k (.fn 20 [])) [(.t 46), (.k (.int .i64 0)), (.k (.int .i64 3))], none, [], false⟩,
         ⟨(some 48), .mv (.t 5), none, [], false⟩,
         ⟨(some 49), .call (.k (.fn 20 [])) [(.t 48), (.k (.int .i64 0)), (.k (.int .i64 100))], none, [], false⟩,
         ⟨(some 50), .mv (.t 6), none, [], false⟩,
         ⟨(some 51), .call (.k (.fn 20 [])) [(.t 50), (.k (.int .i64 0)), (.k (.int .i64 3000))], none, [], false⟩,
         ⟨(some 4), .mv (.t 47), none, [], false⟩,
         ⟨(some 5), .mv (.t 49), none, [], false⟩,
         ⟨(some 6), .mv (.t 51), none, [], false⟩])
       (.seq (.reg [
          ⟨(some 52), .ldn 2 (.t 8), none, [], false⟩,
          ⟨(some 53), .ldn 2 (.t 9), none, [], false⟩,
          ⟨(some 54), .mv (.t 3), none, [], false⟩,
          ⟨(some 55), .mv (.t 4), none, [], false⟩,
          ⟨(some 56), .call (.k (.fn 36 [])) [(.t 52), (.t 53), (.t 54), (.t 55), (.k (.int .i64 50))], none, [], false⟩,
          ⟨(some 18), .mv (.t 56), none, [], false⟩])
        (.seq (.reg [
           ⟨(some 58), .mv (.t 18), none, [], false⟩,
           ⟨(some 59), .slc 2 (.t 58) none (some (.k (.int .i64 9))), none, [], false⟩,
           ⟨(some 60), .mv (.t 5), none, [], false⟩,
           ⟨(some 61), .mv (.t 4), none, [], false⟩,
           ⟨(some 62), .call (.k (.fn 37 [])) [(.t 59), (.k (.int .i64 4)), (.t 60), (.t 61), (.k (.int .i64 128)), (.k (.int .i64 128)), (.k (.sl true 0 0 0 0 0))], none, [], false⟩,
           ⟨(some 57), .mv (.t 62), none, [], false⟩,
           ⟨(some 63), .ext (.t 57) 0, none, [], false⟩,
           ⟨(some 64), .ext (.t 57) 1, none, [], false⟩,
           ⟨(some 65), .ext (.t 57) 2, none, [], false⟩,
           ⟨(some 19), .new [.int .i64 0, .int .i64 0, .int .i64 0, .int .i64 0, .int .i64 0, .int .i64 0, .int .i64 0, .int .i64 0, .int .i64 0, .int .i64 0, .int .i64 0, .int .i64 0, .int .i64 0, .int .i64 0, .int .i64 0, .int .i64 0, .int .i64 0, .int .i64 0, .int .i64 0, .int .i64 0], none, [], false⟩,
           ⟨none, .st 20 (.t 19) (.t 63), none, [], false⟩,
           ⟨(some 20), .mv (.t 64), none, [], false⟩,
           ⟨(some 21), .mv (.t 65), none, [], false⟩])
         (.seq (.seq (.reg [
             ⟨(some 66), .mv (.t 21), none, [], false⟩,
             ⟨(some 67), .un .not (.t 66), none, [], false⟩])
           (.cond (.t 67) (.seq (.reg [
               ⟨(some 14), .mv (.k (.bool false)), none, [], false⟩])
             (.ret))
            (.skip)))
          (.seq (.seq (.reg [
              ⟨(some 68), .ldn 6 (.t 7), none, [], false⟩,
              ⟨(some 69), .call (.k (.fn 39 [])) [(.t 68)], none, [], false⟩,
              ⟨(some 70), .bin .neq (.t 69) (.k (.int .i64 0)), none, [], false⟩])
            (.cond (.t 70) (.seq (.reg [
                ⟨(some 14), .mv (.k (.bool true)), none, [], false⟩])
              (.ret))
             (.skip)))
           (.seq (.reg [
              ⟨(some 72), .ldn 6 (.t 7), none, [], false⟩,
              ⟨(some 73), .ldn 20 (.t 19), none, [], false⟩,
              ⟨(some 74), .mv (.t 4), none, [], false⟩,
              ⟨(some 75), .mv (.t 6), none, [], false⟩,
              ⟨(some 76), .call (.k (.fn 22 [])) [(.t 72), (.t 73), (.k (.int .i64 40)), (.t 74), (.k (.int .i64 0)), (.t 75)], none, [], false⟩,
              ⟨(some 71), .mv (.t 76), none, [], false⟩,
              ⟨(some 77), .ext (.t 71) 0, none, [], false⟩,
              ⟨(some 78), .ext (.t 71) 1, none, [], false⟩,
              ⟨(some 22), .mv (.t 77), none, [], false⟩,
              ⟨(some 23), .mv (.t 78), none, [], false⟩])
            (.seq (.seq (.reg [
                ⟨(some 24), .mv (.k (.int .i64 0)), none, [], false⟩])
              (.blk 0 (.loop (.seq (.seq (.reg [
                    ⟨(some 79), .mv (.t 24), none, [], false⟩,
                    ⟨(some 80), .bin .leq (.t 79) (.k (.int .i64 40)), none, [], false⟩])
                  (.cond (.t 80) (.skip)
                   (.exit 0)))
                 (.seq (.blk 1 (.seq (.reg [
                      ⟨(some 84), .ldn 6 (.t 7), none, [], false⟩,
                      ⟨(some 85), .mv (.t 18), none, [], false⟩,
                      ⟨(some 86), .mv (.t 20), none, [], false⟩,
                      ⟨(some 87), .mv (.t 24), none, [], false⟩,
                      ⟨(some 88), .bin .add (.t 86) (.t 87), none, [], false⟩,
                      ⟨(some 89), .iad 2 (.t 85) (.t 88), none, [], false⟩,
                      ⟨(some 90), .ldn 2 (.t 89), none, [], false⟩,
                      ⟨(some 91), .call (.k (.fn 40 [])) [(.t 84), (.t 90)], none, [], false⟩,
                      ⟨(some 83), .mv (.t 91), none, [], false⟩,
                      ⟨(some 92), .ext (.t 83) 0, none, [], false⟩,
                      ⟨(some 93), .ext (.t 83) 1, none, [], false⟩,
                      ⟨(some 25), .mv (.t 92), none, [], false⟩,
                      ⟨(some 26), .mv (.t 93), none, [], false⟩])
                    (.seq (.seq (.reg [
                        ⟨(some 94), .mv (.t 26), none, [], false⟩,
                        ⟨(some 95), .bin .neq (.t 94) (.k (.int .i64 0)), none, [], false⟩])
                      (.cond (.t 95) (.seq (.reg [
                          ⟨(some 14), .mv (.k (.bool false)), none, [], false⟩])
                        (.ret))
                       (.skip)))
                     (.seq (.reg [
                        ⟨(some 96), .fad 0 (.t 19), none, [], false⟩,
                        ⟨(some 97), .fad 7 (.t 96), none, [], false⟩,
                        ⟨(some 98), .ld1 (.t 97), none, [], false⟩,
                        ⟨(some 99), .mv (.t 25), none, [], false⟩,
                        ⟨(some 100), .mv (.t 6), none, [], false⟩,
                        ⟨(some 101), .bin .add (.t 99) (.t 100), none, [], false⟩,
                        ⟨(some 102), .bin .lss (.t 98) (.t 101), none, [], false⟩])
                      (.cond (.t 102) (.seq (.reg [
                          ⟨(some 103), .mv (.t 23), none, [], false⟩,
                          ⟨(some 104), .bin .eql (.t 103) (.k (.int .i64 0)), none, [], false⟩,
                          ⟨(some 105), .mv (.t 104), none, [], false⟩,
                          ⟨(some 106), .mv (.t 22), (some (105, true)), [], false⟩,
                          ⟨(some 107), .mv (.t 24), (some (105, true)), [], false⟩,
                          ⟨(some 108), .bin .leq (.t 106) (.t 107), (some (105, true)), [], false⟩,
                          ⟨(some 109), .pick (.t 105) (.t 108) (.k (.bool false)), none, [], false⟩,
                          ⟨(some 14), .mv (.t 109), none, [], false⟩])
                        (.ret))
                       (.skip))))))
                  (.reg [
                    ⟨(some 81), .mv (.t 24), none, [], false⟩,
                    ⟨(some 82), .bin .add (.t 81) (.k (.int .i64 1)), none, [], false⟩,
                    ⟨(some 24), .mv (.t 82), none, [], false⟩]))))))
             (.seq (.reg [
                ⟨(some 110), .mv (.t 23), none, [], false⟩,
                ⟨(some 111), .bin .eql (.t 110) (.k (.int .i64 0)), none, [], false⟩,
                ⟨(some 112), .mv (.t 111), none, [], false⟩,
                ⟨(some 113), .mv (.t 23), (some (112, false)), [], false⟩,
                ⟨(some 114), .bin .eql (.t 113) (.k (.int .i64 8)), (some (112, false)), [], false⟩,
                ⟨(some 115), .pick (.t 112) (.k (.bool true)) (.t 114), none, [], false⟩,
                ⟨(some 14), .mv (.t 115), none, [], false⟩])
              (.ret)))))))))))
/-- skyway/num.magnitude -/
def c82 : CF where
  np := 1
  nt := 10
  res := [.t 2]
  code := .seq (.reg [
      ⟨(some 2), .mv (.k (.int .u64 0)), none, [], false⟩])
    (.seq (.seq (.reg [
        ⟨(some 3), .mv (.t 0), none, [], false⟩,
        ⟨(some 4), .bin .lss (.t 3) (.k (.int .i64 0)), none, [], false⟩])
      (.cond (.t 4) (.seq (.reg [
          ⟨(some 5), .mv (.t 0), none, [], false⟩,
          ⟨(some 6), .cvi .u64 (.t 5), none, [], false⟩,
          ⟨(some 7), .un .neg (.t 6), none, [], false⟩,
          ⟨(some 2), .mv (.t 7), none, [], false⟩])
        (.ret))
       (.skip)))
     (.seq (.reg [
        ⟨(some 8), .mv (.t 0), none, [], false⟩,
        ⟨(some 9), .cvi .u64 (.t 8), none, [], false⟩,
        ⟨(some 2), .mv (.t 9), none, [], false⟩])
      (.ret)))
/-- math/bits.Mul64 -/
def c81 : CF where
  np := 2
  nt := 51
  res := [.t 4, .t 5]
  code := .seq (.reg [
      ⟨(some 4), .mv (.k (.int .u64 0)), none, [], false⟩,
      ⟨(some 5), .mv (.k (.int .u64 0)), none, [], false⟩])
    (.seq (.reg [
       ⟨(some 14), .mv (.t 0), none, [], false⟩,
       ⟨(some 15), .bin .and (.t 14) (.k (.int .u64 4294967295)), none, [], false⟩,
       ⟨(some 6), .mv (.t 15), none, [], false⟩])
     (.seq (.reg [
        ⟨(some 16), .mv (.t 0), none, [], false⟩,
        ⟨(some 17), .bin .shr (.t 16) (.k (.int .u64 32)), none, [], false⟩,
        ⟨(some 7), .mv (.t 17), none, [], false⟩])
      (.seq (.reg [
         ⟨(some 18), .mv (.t 1), none, [], false⟩,
         ⟨(some 19), .bin .and (.t 18) (.k (.int .u64 4294967295)), none, [], false⟩,
         ⟨(some 8), .mv (.t 19), none, [], false⟩])
       (.seq (.reg [
          ⟨(some 20), .mv (.t 1), none, [], false⟩,
          ⟨(some 21), .bin .shr (.t 20) (.k (.int .u64 32)), none, [], false⟩,
          ⟨(some 9), .mv (.t 21), none, [], false⟩])
        (.seq (.reg [
           ⟨(some 22), .mv (.t 6), none, [], false⟩,
           ⟨(some 23), .mv (.t 8), none, [], false⟩,
           ⟨(some 24), .bin .mul (.t 22) (.t 23), none, [], false⟩,
           ⟨(some 10), .mv (.t 24), none, [], false⟩])
         (.seq (.reg [
            ⟨(some 25), .mv (.t 7), none, [], false⟩,
            ⟨(some 26), .mv (.t 8), none, [], false⟩,
            ⟨(some 27), .bin .mul (.t 25) (.t 26), none, [], false⟩,
            ⟨(some 28), .mv (.t 10), none, [], false⟩,
            ⟨(some 29), .bin .shr (.t 28) (.k (.int .u64 32)), none, [], false⟩,
            ⟨(some 30), .bin .add (.t 27) (.t 29), none, [], false⟩,
            ⟨(some 11), .mv (.t 30), none, [], false⟩])
          (.seq (.reg [
             ⟨(some 31), .mv (.t 11), none, [], false⟩,
             ⟨(some 32), .bin .and (.t 31) (.k (.int .u64 4294967295)), none, [], false⟩,
             ⟨(some 12), .mv (.t 32), none, [], false⟩])
           (.seq (.reg [
              ⟨(some 33), .mv (.t 11), none, [], false⟩,
              ⟨(some 34), .bin .shr (.t 33) (.k (.int .u64 32)), none, [], false⟩,
              ⟨(some 13), .mv (.t 34), none, [], false⟩])
            (.seq (.reg [
               ⟨(some 35), .mv (.t 12), none, [], false⟩,
               ⟨(some 36), .mv (.t 6), none, [], false⟩,
               ⟨(some 37), .mv (.t 9), none, [], false⟩,
               ⟨(some 38), .bin .mul (.t 36) (.t 37), none, [], false⟩,
               ⟨(some 39), .bin .add (.t 35) (.t 38), none, [], false⟩,
               ⟨(some 12), .mv (.t 39), none, [], false⟩])
             (.seq (.reg [
                ⟨(some 40), .mv (.t 7), none, [], false⟩,
                ⟨(some 41), .mv (.t 9), none, [], false⟩,
                ⟨(some 42), .bin .mul (.t 40) (.t 41), none, [], false⟩,
                ⟨(some 43), .mv (.t 13), none, [], false⟩,
                ⟨(some 44), .bin .add (.t 42) (.t 43), none, [], false⟩,
                ⟨(some 45), .mv (.t 12), none, [], false⟩,
                ⟨(some 46), .bin .shr (.t 45) (.k (.int .u64 32)), none, [], false⟩,
                ⟨(some 47), .bin .add (.t 44) (.t 46), none, [], false⟩,
                ⟨(some 4), .mv (.t 47), none, [], false⟩])
              (.seq (.reg [
                 ⟨(some 48), .mv (.t 0), none, [], false⟩,
                 ⟨(some 49), .mv (.t 1), none, [], false⟩,
                 ⟨(some 50), .bin .mul (.t 48) (.t 49), none, [], false⟩,
                 ⟨(some 5), .mv (.t 50), none, [], false⟩])
               (.ret))))))))))))
/-- math/bits.LeadingZeros64 -/
def c114 : CF where
  np := 1
  nt := 6
  res := [.t 2]
  code := .seq (.reg [
      ⟨(some 2), .mv (.k (.int .i64 0)), none, [], false⟩])
    (.seq (.reg [
       ⟨(some 3), .mv (.t 0), none, [], false⟩,
       ⟨(some 4), .call (.k (.fn 106 [])) [(.t 3)], none, [], false⟩,
       ⟨(some 5), .bin .sub (.k (.int .i64 64)) (.t 4), none, [], false⟩,
       ⟨(some 2), .mv (.t 5), none, [], false⟩])
     (.ret))
/-- math/bits.Div64 -/
def c83 : CF where
  np := 3
  nt := 135
  res := [.t 6, .t 7]
  code := .seq (.reg [
      ⟨(some 6), .mv (.k (.int .u64 0)), none, [], false⟩,
      ⟨(some 7), .mv (.k (.int .u64 0)), none, [], false⟩])
    (.seq (.seq (.reg [
        ⟨(some 19), .mv (.t 2), none, [], false⟩,
        ⟨(some 20), .bin .eql (.t 19) (.k (.int .u64 0)), none, [], false⟩])
      (.cond (.t 20) (.reg [
         ⟨(some 21), .bad, none, [], false⟩,
         ⟨none, .bad, none, [], false⟩])
       (.skip)))
     (.seq (.seq (.reg [
         ⟨(some 22), .mv (.t 2), none, [], false⟩,
         ⟨(some 23), .mv (.t 0), none, [], false⟩,
         ⟨(some 24), .bin .leq (.t 22) (.t 23), none, [], false⟩])
       (.cond (.t 24) (.reg [
          ⟨(some 25), .bad, none, [], false⟩,
          ⟨none, .bad, none, [], false⟩])
        (.skip)))
      (.seq (.seq (.reg [
          ⟨(some 26), .mv (.t 0), none, [], false⟩,
          ⟨(some 27), .bin .eql (.t 26) (.k (.int .u64 0)), none, [], false⟩])
        (.cond (.t 27) (.seq (.reg [
            ⟨(some 28), .mv (.t 1), none, [], false⟩,
            ⟨(some 29), .mv (.t 2), none, [], false⟩,
            ⟨(some 30), .bin .quo (.t 28) (.t 29), none, [], false⟩,
            ⟨(some 31), .mv (.t 1), none, [], false⟩,
            ⟨(some 32), .mv (.t 2), none, [], false⟩,
            ⟨(some 33), .bin .rem (.t 31) (.t 32), none, [], false⟩,
            ⟨(some 6), .mv (.t 30), none, [], false⟩,
            ⟨(some 7), .mv (.t 33), none, [], false⟩])
          (.ret))
         (.skip)))
       (.seq (.reg [
          ⟨(some 34), .mv (.t 2), none, [], false⟩,
          ⟨(some 35), .call (.k (.fn 114 [])) [(.t 34)], none, [], false⟩,
          ⟨(some 36), .cvi .u64 (.t 35), none, [], false⟩,
          ⟨(some 8), .mv (.t 36), none, [], false⟩])
        (.seq (.reg [
           ⟨(some 37), .mv (.t 2), none, [], false⟩,
           ⟨(some 38), .mv (.t 8), none, [], false⟩,
           ⟨(some 39), .bin .shl (.t 37) (.t 38), none, [], false⟩,
           ⟨(some 2), .mv (.t 39), none, [], false⟩])
         (.seq (.reg [
            ⟨(some 40), .mv (.t 2), none, [], false⟩,
            ⟨(some 41), .bin .shr (.t 40) (.k (.int .u64 32)), none, [], false⟩,
            ⟨(some 9), .mv (.t 41), none, [], false⟩])
          (.seq (.reg [
             ⟨(some 42), .mv (.t 2), none, [], false⟩,
             ⟨(some 43), .bin .and (.t 42) (.k (.int .u64 4294967295)), none, [], false⟩,
             ⟨(some 10), .mv (.t 43), none, [], false⟩])
           (.seq (.reg [
              ⟨(some 44), .mv (.t 0), none, [], false⟩,
              ⟨(some 45), .mv (.t 8), none, [], false⟩,
              ⟨(some 46), .bin .shl (.t 44) (.t 45), none, [], false⟩,
              ⟨(some 47), .mv (.t 1), none, [], false⟩,
              ⟨(some 48), .mv (.t 8), none, [], false⟩,
              ⟨(some 49), .bin .sub (.k (.int .u64 64)) (.t 48), none, [], false⟩,
              ⟨(some 50), .bin .shr (.t 47) (.t 49), none, [], false⟩,
              ⟨(some 51), .bin .or (.t 46) (.t 50), none, [], false⟩,
              ⟨(some 11), .mv (.t 51), none, [], false⟩])
            (.seq (.reg [
               ⟨(some 52), .mv (.t 1), none, [], false⟩,
               ⟨(some 53), .mv (.t 8), none, [], false⟩,
               ⟨(some 54), .bin .shl (.t 52) (.t 53), none, [], false⟩,
               ⟨(some 12), .mv (.t 54), none, [], false⟩])
             (.seq (.reg [
                ⟨(some 55), .mv (.t 12), none, [], false⟩,
                ⟨(some 56), .bin .shr (.t 55) (.k (.int .u64 32)), none, [], false⟩,
                ⟨(some 13), .mv (.t 56), none, [], false⟩])
              (.seq (.reg [
                 ⟨(some 57), .mv (.t 12), none, [], false⟩,
                 ⟨(some 58), .bin .and (.t 57) (.k (.int .u64 4294967295)), none, [], false⟩,
                 ⟨(some 14), .mv (.t 58), none, [], false⟩])
               (.seq (.reg [
                  ⟨(some 59), .mv (.t 11), none, [], false⟩,
                  ⟨(some 60), .mv (.t 9), none, [], false⟩,
                  ⟨(some 61), .bin .quo (.t 59) (.t 60), none, [], false⟩,
                  ⟨(some 15), .mv (.t 61), none, [], false⟩])
                (.seq (.reg [
                   ⟨(some 62), .mv (.t 11), none, [], false⟩,
                   ⟨(some 63), .mv (.t 15), none, [], false⟩,
                   ⟨(some 64), .mv (.t 9), none, [], false⟩,
                   ⟨(some 65), .bin .mul (.t 63) (.t 64), none, [], false⟩,
                   ⟨(some 66), .bin .sub (.t 62) (.t 65), none, [], false⟩,
                   ⟨(some 16), .mv (.t 66), none, [], false⟩])
                 (.seq (.blk 0 (.loop (.seq (.seq (.reg [
                        ⟨(some 67), .mv (.t 15), none, [], false⟩,
                        ⟨(some 68), .bin .geq (.t 67) (.k (.int .u64 4294967296)), none, [], false⟩,
                        ⟨(some 69), .mv (.t 68), none, [], false⟩,
                        ⟨(some 70), .mv (.t 15), (some (69, false)), [], false⟩,
                        ⟨(some 71), .mv (.t 10), (some (69, false)), [], false⟩,
                        ⟨(some 72), .bin .mul (.t 70) (.t 71), (some (69, false)), [], false⟩,
                        ⟨(some 73), .mv (.t 16), (some (69, false)), [], false⟩,
                        ⟨(some 74), .bin .mul (.k (.int .u64 4294967296)) (.t 73), (some (69, false)), [], false⟩,
                        ⟨(some 75), .mv (.t 13), (some (69, false)), [], false⟩,
                        ⟨(some 76), .bin .add (.t 74) (.t 75), (some (69, false)), [], false⟩,
                        ⟨(some 77), .bin .gtr (.t 72) (.t 76), (some (69, false)), [], false⟩,
                        ⟨(some 78), .pick (.t 69) (.k (.bool true)) (.t 77), none, [], false⟩])
                      (.cond (.t 78) (.skip)
                       (.exit 0)))
                     (.blk 1 (.seq (.reg [
                         ⟨(some 79), .mv (.t 15), none, [], false⟩,
                         ⟨(some 80), .bin .sub (.t 79) (.k (.int .u64 1)), none, [], false⟩,
                         ⟨(some 15), .mv (.t 80), none, [], false⟩])
                       (.seq (.reg [
                          ⟨(some 81), .mv (.t 16), none, [], false⟩,
                          ⟨(some 82), .mv (.t 9), none, [], false⟩,
                          ⟨(some 83), .bin .add (.t 81) (.t 82), none, [], false⟩,
                          ⟨(some 16), .mv (.t 83), none, [], false⟩])
                        (.seq (.reg [
                           ⟨(some 84), .mv (.t 16), none, [], false⟩,
                           ⟨(some 85), .bin .geq (.t 84) (.k (.int .u64 4294967296)), none, [], false⟩])
                         (.cond (.t 85) (.exit 0)
                          (.skip)))))))))
                  (.seq (.reg [
                     ⟨(some 86), .mv (.t 11), none, [], false⟩,
                     ⟨(some 87), .bin .mul (.t 86) (.k (.int .u64 4294967296)), none, [], false⟩,
                     ⟨(some 88), .mv (.t 13), none, [], false⟩,
                     ⟨(some 89), .bin .add (.t 87) (.t 88), none, [], false⟩,
                     ⟨(some 90), .mv (.t 15), none, [], false⟩,
                     ⟨(some 91), .mv (.t 2), none, [], false⟩,
                     ⟨(some 92), .bin .mul (.t 90) (.t 91), none, [], false⟩,
                     ⟨(some 93), .bin .sub (.t 89) (.t 92), none, [], false⟩,
                     ⟨(some 17), .mv (.t 93), none, [], false⟩])
                   (.seq (.reg [
                      ⟨(some 94), .mv (.t 17), none, [], false⟩,
                      ⟨(some 95), .mv (.t 9), none, [], false⟩,
                      ⟨(some 96), .bin .quo (.t 94) (.t 95), none, [], false⟩,
                      ⟨(some 18), .mv (.t 96), none, [], false⟩])
                    (.seq (.reg [
                       ⟨(some 97), .mv (.t 17), none, [], false⟩,
                       ⟨(some 98), .mv (.t 18), none, [], false⟩,
                       ⟨(some 99), .mv (.t 9), none, [], false⟩,
                       ⟨(some 100), .bin .mul (.t 98) (.t 99), none, [], false⟩,
                       ⟨(some 101), .bin .sub (.t 97) (.t 100), none, [], false⟩,
                       ⟨(some 16), .mv (.t 101), none, [], false⟩])
                     (.seq (.blk 2 (.loop (.seq (.seq (.reg [
                            ⟨(some 102), .mv (.t 18), none, [], false⟩,
                            ⟨(some 103), .bin .geq (.t 102) (.k (.int .u64 4294967296)), none, [], false⟩,
                            ⟨(some 104), .mv (.t 103), none, [], false⟩,
                            ⟨(some 105), .mv (.t 18), (some (104, false)), [], false⟩,
                            ⟨(some 106), .mv (.t 10), (some (104, false)), [], false⟩,
                            ⟨(some 107), .bin .mul (.t 105) (.t 106), (some (104, false)), [], false⟩,
                            ⟨(some 108), .mv (.t 16), (some (104, false)), [], false⟩,
                            ⟨(some 109), .bin .mul (.k (.int .u64 4294967296)) (.t 108), (some (104, false)), [], false⟩,
                            ⟨(some 110), .mv (.t 14), (some (104, false)), [], false⟩,
                            ⟨(some 111), .bin .add (.t 109) (.t 110), (some (104, false)), [], false⟩,
                            ⟨(some 112), .bin .gtr (.t 107) (.t 111), (some (104, false)), [], false⟩,
                            ⟨(some 113), .pick (.t 104) (.k (.bool true)) (.t 112), none, [], false⟩])
                          (.cond (.t 113) (.skip)
                           (.exit 2)))
                         (.blk 3 (.seq (.reg [
                             ⟨(some 114), .mv (.t 18), none, [], false⟩,
                             ⟨(some 115), .bin .sub (.t 114) (.k (.int .u64 1)), none, [], false⟩,
                             ⟨(some 18), .mv (.t 115), none, [], false⟩])
                           (.seq (.reg [
                              ⟨(some 116), .mv (.t 16), none, [], false⟩,
                              ⟨(some 117), .mv (.t 9), none, [], false⟩,
                              ⟨(some 118), .bin .add (.t 116) (.t 117), none, [], false⟩,
                              ⟨(some 16), .mv (.t 118), none, [], false⟩])
                            (.seq (.reg [
                               ⟨(some 119), .mv (.t 16), none, [], false⟩,
                               ⟨(some 120), .bin .geq (.t 119) (.k (.int .u64 4294967296)), none, [], false⟩])
                             (.cond (.t 120) (.exit 2)
                              (.skip)))))))))
                      (.seq (.reg [
                         ⟨(some 121), .mv (.t 15), none, [], false⟩,
                         ⟨(some 122), .bin .mul (.t 121) (.k (.int .u64 4294967296)), none, [], false⟩,
                         ⟨(some 123), .mv (.t 18), none, [], false⟩,
                         ⟨(some 124), .bin .add (.t 122) (.t 123), none, [], false⟩,
                         ⟨(some 125), .mv (.t 17), none, [], false⟩,
                         ⟨(some 126), .bin .mul (.t 125) (.k (.int .u64 4294967296)), none, [], false⟩,
                         ⟨(some 127), .mv (.t 14), none, [], false⟩,
                         ⟨(some 128), .bin .add (.t 126) (.t 127), none, [], false⟩,
                         ⟨(some 129), .mv (.t 18), none, [], false⟩,
                         ⟨(some 130), .mv (.t 2), none, [], false⟩,
                         ⟨(some 131), .bin .mul (.t 129) (.t 130), none, [], false⟩,
                         ⟨(some 132), .bin .sub (.t 128) (.t 131), none, [], false⟩,
                         ⟨(some 133), .mv (.t 8), none, [], false⟩,
                         ⟨(some 134), .bin .shr (.t 132) (.t 133), none, [], false⟩,
                         ⟨(some 6), .mv (.t 124), none, [], false⟩,
                         ⟨(some 7), .mv (.t 134), none, [], false⟩])
                       (.ret))))))))))))))))))))
theorem ok26 : cFunc Try.prog Try.f26 = some c26 := by kernel_rfl
theorem ok6 : cFunc Try.prog Try.f6 = some c6 := by kernel_rfl
theorem ok27 : cFunc Try.prog Try.f27 = some c27 := by kernel_rfl
theorem ok7 : cFunc Try.prog Try.f7 = some c7 := by kernel_rfl
theorem ok71 : cFunc Try.prog Try.f71 = some c71 := by kernel_rfl
theorem ok72 : cFunc Try.prog Try.f72 = some c72 := by kernel_rfl
theorem ok30 : cFunc Try.prog Try.f30 = some c30 := by kernel_rfl
theorem ok128 : cFunc Try.prog Try.f128 = some c128 := by kernel_rfl
theorem ok110 : cFunc Try.prog Try.f110 = some c110 := by kernel_rfl
theorem ok109 : cFunc Try.prog Try.f109 = some c109 := by kernel_rfl
theorem ok70 : cFunc Try.prog Try.f70 = some c70 := by kernel_rfl
theorem ok28 : cFunc Try.prog Try.f28 = some c28 := by kernel_rfl
theorem ok29 : cFunc Try.prog Try.f29 = some c29 := by kernel_rfl
theorem ok32 : cFunc Try.prog Try.f32 = some c32 := by kernel_rfl
theorem ok73 : cFunc Try.prog Try.f73 = some c73 := by kernel_rfl
theorem ok31 : cFunc Try.prog Try.f31 = some c31 := by kernel_rfl
theorem ok74 : cFunc Try.prog Try.f74 = some c74 := by kernel_rfl
theorem ok33 : cFunc Try.prog Try.f33 = some c33 := by kernel_rfl
theorem ok35 : cFunc Try.prog Try.f35 = some c35 := by kernel_rfl
theorem ok75 : cFunc Try.prog Try.f75 = some c75 := by kernel_rfl
theorem ok34 : cFunc Try.prog Try.f34 = some c34 := by kernel_rfl
theorem ok8 : cFunc Try.prog Try.f8 = some c8 := by kernel_rfl
theorem ok36 : cFunc Try.prog Try.f36 = some c36 := by kernel_rfl
theorem ok77 : cFunc Try.prog Try.f77 = some c77 := by kernel_rfl
theorem ok76 : cFunc Try.prog Try.f76 = some c76 := by kernel_rfl
theorem ok111 : cFunc Try.prog Try.f111 = some c111 := by kernel_rfl
theorem ok112 : cFunc Try.prog Try.f112 = some c112 := by kernel_rfl
theorem ok78 : cFunc Try.prog Try.f78 = some c78 := by kernel_rfl
theorem ok37 : cFunc Try.prog Try.f37 = some c37 := by kernel_rfl
theorem ok38 : cFunc Try.prog Try.f38 = some c38 := by kernel_rfl
theorem ok9 : cFunc Try.prog Try.f9 = some c9 := by kernel_rfl
theorem ok79 : cFunc Try.prog Try.f79 = some c79 := by kernel_rfl
theorem ok40 : cFunc Try.prog Try.f40 = some c40 := by kernel_rfl
theorem ok10 : cFunc Try.prog Try.f10 = some c10 := by kernel_rfl
theorem ok82 : cFunc Try.prog Try.f82 = some c82 := by kernel_rfl
theorem ok81 : cFunc Try.prog Try.f81 = some c81 := by kernel_rfl
theorem ok114 : cFunc Try.prog Try.f114 = some c114 := by kernel_rfl
theorem ok83 : cFunc Try.prog Try.f83 = some c83 := by kernel_rfl
end Go.Proofs.Ytpehhlfbnkakpaa.CodeAll
