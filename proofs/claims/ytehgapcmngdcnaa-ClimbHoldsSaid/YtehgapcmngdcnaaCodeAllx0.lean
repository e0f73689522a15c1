/- The code of functions of the program, for the abstract machine; each is what the function is turned into. No condition. -/
import Derived.Test.YtehgapcmngdcnaaEvaO
import Derived.Test.YtehgapcmngdcnaaChecked
import Derived.KernelRfl
namespace Go.Proofs.Ytehgapcmngdcnaa.CodeAll
open Go Go.Proofs.Ytehgapcmngdcnaa.Eva
/-- skyway/climb.Level -/
def c15 : CF where
  np := 1
  nt := 12
  res := [.t 2, .t 3]
  code := .seq (.reg [
      ⟨(some 2), .mv (.k (.int .i64 0)), none, [], false⟩,
      ⟨(some 3), .mv (.k (.int .i64 0)), none, [], false⟩])
    (.seq (.seq (.reg [
        ⟨(some 4), .mv (.t 0), none, [], false⟩,
        ⟨(some 5), .bin .lss (.t 4) (.k (.int .i64 0)), none, [], false⟩,
        ⟨(some 6), .mv (.t 5), none, [], false⟩,
        ⟨(some 7), .mv (.t 0), (some (6, false)), [], false⟩,
        ⟨(some 8), .bin .gtr (.t 7) (.k (.int .i64 60000)), (some (6, false)), [], false⟩,
        ⟨(some 9), .pick (.t 6) (.k (.bool true)) (.t 8), none, [], false⟩])
      (.cond (.t 9) (.seq (.reg [
          ⟨(some 2), .mv (.k (.int .i64 0)), none, [], false⟩,
          ⟨(some 3), .mv (.k (.int .i64 4)), none, [], false⟩])
        (.ret))
       (.skip)))
     (.seq (.reg [
        ⟨(some 10), .mv (.t 0), none, [], false⟩,
        ⟨(some 11), .bin .quo (.t 10) (.k (.int .i64 100)), none, [], false⟩,
        ⟨(some 2), .mv (.t 11), none, [], false⟩,
        ⟨(some 3), .mv (.k (.int .i64 0)), none, [], false⟩])
      (.ret)))
/-- skyway/skywaykeep2.within -/
def c16 : CF where
  np := 3
  nt := 21
  res := [.t 6]
  code := .seq (.reg [
      ⟨(some 6), .mv (.k (.int .i64 0)), none, [], false⟩])
    (.seq (.reg [
       ⟨(some 8), .mv (.t 2), none, [], false⟩,
       ⟨(some 9), .mv (.t 1), none, [], false⟩,
       ⟨(some 10), .bin .sub (.t 8) (.t 9), none, [], false⟩,
       ⟨(some 11), .bin .add (.t 10) (.k (.int .i64 1)), none, [], false⟩,
       ⟨(some 7), .mv (.t 11), none, [], false⟩])
     (.seq (.reg [
        ⟨(some 12), .mv (.t 1), none, [], false⟩,
        ⟨(some 13), .mv (.t 0), none, [], false⟩,
        ⟨(some 14), .mv (.t 7), none, [], false⟩,
        ⟨(some 15), .bin .rem (.t 13) (.t 14), none, [], false⟩,
        ⟨(some 16), .mv (.t 7), none, [], false⟩,
        ⟨(some 17), .bin .add (.t 15) (.t 16), none, [], false⟩,
        ⟨(some 18), .mv (.t 7), none, [], false⟩,
        ⟨(some 19), .bin .rem (.t 17) (.t 18), none, [], false⟩,
        ⟨(some 20), .bin .add (.t 12) (.t 19), none, [], false⟩,
        ⟨(some 6), .mv (.t 20), none, [], false⟩])
      (.ret)))
/-- skyway/skywaykeep2.ClimbHolds$1 -/
def c18 : CF where
  np := 2
  nt := 8
  res := [.t 3]
  code := .seq (.reg [
      ⟨(some 3), .mv (.k (.bool false)), none, [], false⟩])
    (.seq (.reg [
       ⟨(some 4), .mv (.t 0), none, [], false⟩,
       ⟨(some 6), .ld1 (.t 1), none, [], false⟩,
       ⟨(some 5), .call (.k (.fn 16 [])) [(.t 4), (.k (.int .i64 0)), (.k (.int .i64 99))], none, [], true⟩,
       ⟨(some 7), .bin .eql (.t 5) (.t 6), none, [], false⟩,
       ⟨(some 3), .mv (.t 7), none, [], false⟩])
     (.ret))
/-- slices.IndexFunc[[]int,int] -/
def c44 : CF where
  np := 2
  nt := 19
  res := [.t 4]
  code := .seq (.reg [
      ⟨(some 4), .mv (.k (.int .i64 0)), none, [], false⟩])
    (.seq (.seq (.reg [
        ⟨(some 6), .mv (.t 0), none, [], false⟩,
        ⟨(some 7), .lenv false (.t 6), none, [], false⟩,
        ⟨(some 8), .mv (.k (.int .i64 0)), none, [], false⟩])
      (.blk 0 (.loop (.seq (.reg [
           ⟨(some 9), .bin .lss (.t 8) (.t 7), none, [], false⟩])
         (.seq (.cond (.t 9) (.skip)
           (.exit 0))
          (.seq (.blk 1 (.seq (.reg [
               ⟨(some 10), .mv (.t 8), none, [], false⟩,
               ⟨(some 5), .mv (.t 10), none, [], false⟩])
             (.seq (.reg [
                ⟨(some 11), .mv (.t 1), none, [], false⟩,
                ⟨(some 12), .mv (.t 0), none, [], false⟩,
                ⟨(some 13), .mv (.t 5), none, [], false⟩,
                ⟨(some 14), .iad 1 (.t 12) (.t 13), none, [], false⟩,
                ⟨(some 15), .ld1 (.t 14), none, [], false⟩,
                ⟨(some 16), .call (.t 11) [(.t 15)], none, [], false⟩])
              (.cond (.t 16) (.seq (.reg [
                  ⟨(some 17), .mv (.t 5), none, [], false⟩,
                  ⟨(some 4), .mv (.t 17), none, [], false⟩])
                (.ret))
               (.skip)))))
           (.reg [
             ⟨(some 18), .bin .add (.t 8) (.k (.int .i64 1)), none, [], false⟩,
             ⟨(some 8), .mv (.t 18), none, [], false⟩])))))))
     (.seq (.reg [
        ⟨(some 4), .mv (.k (.int .i64 (-1))), none, [], false⟩])
      (.ret)))
/-- slices.ContainsFunc[[]int,int] -/
def c17 : CF where
  np := 2
  nt := 9
  res := [.t 4]
  code := .seq (.reg [
      ⟨(some 4), .mv (.k (.bool false)), none, [], false⟩])
    (.seq (.reg [
       ⟨(some 5), .mv (.t 0), none, [], false⟩,
       ⟨(some 6), .mv (.t 1), none, [], false⟩,
       ⟨(some 7), .call (.k (.fn 44 [])) [(.t 5), (.t 6)], none, [], false⟩,
       ⟨(some 8), .bin .geq (.t 7) (.k (.int .i64 0)), none, [], false⟩,
       ⟨(some 4), .mv (.t 8), none, [], false⟩])
     (.ret))
/-- skyway/climb.Check -/
def c45 : CF where
  np := 1
  nt := 49
  res := [.t 2]
  code := .seq (.reg [
      ⟨(some 2), .mv (.k (.int .i64 0)), none, [], false⟩])
    (.seq (.seq (.reg [
        ⟨(some 5), .mv (.t 0), none, [], false⟩,
        ⟨(some 6), .lenv false (.t 5), none, [], false⟩,
        ⟨(some 7), .bin .gtr (.t 6) (.k (.int .i64 64)), none, [], false⟩])
      (.cond (.t 7) (.seq (.reg [
          ⟨(some 2), .mv (.k (.int .i64 2)), none, [], false⟩])
        (.ret))
       (.skip)))
     (.seq (.seq (.reg [
         ⟨(some 8), .mv (.t 0), none, [], false⟩,
         ⟨(some 9), .lenv false (.t 8), none, [], false⟩,
         ⟨(some 10), .mv (.k (.int .i64 0)), none, [], false⟩])
       (.blk 0 (.loop (.seq (.reg [
            ⟨(some 11), .bin .lss (.t 10) (.t 9), none, [], false⟩])
          (.seq (.cond (.t 11) (.skip)
            (.exit 0))
           (.seq (.blk 1 (.seq (.reg [
                ⟨(some 12), .mv (.t 10), none, [], false⟩,
                ⟨(some 13), .iad 2 (.t 8) (.t 10), none, [], false⟩,
                ⟨(some 14), .ldn 2 (.t 13), none, [], false⟩,
                ⟨(some 4), .new [.int .i64 0, .int .i64 0], none, [], false⟩,
                ⟨(some 3), .mv (.t 12), none, [], false⟩,
                ⟨none, .st 2 (.t 4) (.t 14), none, [], false⟩])
              (.blk 2 (.seq (.reg [
                  ⟨(some 16), .fad 0 (.t 4), none, [], false⟩,
                  ⟨(some 17), .ld1 (.t 16), none, [], false⟩,
                  ⟨(some 18), .bin .lss (.t 17) (.k (.int .i64 0)), none, [], false⟩,
                  ⟨(some 19), .mv (.t 18), none, [], false⟩,
                  ⟨(some 20), .fad 0 (.t 4), (some (19, false)), [], false⟩,
                  ⟨(some 21), .ld1 (.t 20), (some (19, false)), [], false⟩,
                  ⟨(some 22), .bin .gtr (.t 21) (.k (.int .i64 200000)), (some (19, false)), [], false⟩,
                  ⟨(some 23), .pick (.t 19) (.k (.bool true)) (.t 22), none, [], false⟩,
                  ⟨(some 24), .mv (.t 23), none, [], false⟩,
                  ⟨(some 25), .fad 1 (.t 4), (some (24, false)), [], false⟩,
                  ⟨(some 26), .ld1 (.t 25), (some (24, false)), [], false⟩,
                  ⟨(some 27), .bin .lss (.t 26) (.k (.int .i64 0)), (some (24, false)), [], false⟩,
                  ⟨(some 28), .pick (.t 24) (.k (.bool true)) (.t 27), none, [], false⟩,
                  ⟨(some 29), .mv (.t 28), none, [], false⟩,
                  ⟨(some 30), .fad 1 (.t 4), (some (29, false)), [], false⟩,
                  ⟨(some 31), .ld1 (.t 30), (some (29, false)), [], false⟩,
                  ⟨(some 32), .bin .gtr (.t 31) (.k (.int .i64 600)), (some (29, false)), [], false⟩,
                  ⟨(some 33), .pick (.t 29) (.k (.bool true)) (.t 32), none, [], false⟩,
                  ⟨(some 15), .mv (.t 33), none, [], false⟩])
                (.cond (.t 15) (.seq (.reg [
                    ⟨(some 2), .mv (.k (.int .i64 4)), none, [], false⟩])
                  (.ret))
                 (.seq (.reg [
                    ⟨(some 35), .mv (.t 3), none, [], false⟩,
                    ⟨(some 36), .bin .gtr (.t 35) (.k (.int .i64 0)), none, [], false⟩,
                    ⟨(some 37), .mv (.t 36), none, [], false⟩,
                    ⟨(some 38), .fad 0 (.t 4), (some (37, true)), [], false⟩,
                    ⟨(some 39), .ld1 (.t 38), (some (37, true)), [], false⟩,
                    ⟨(some 40), .mv (.t 0), (some (37, true)), [], false⟩,
                    ⟨(some 41), .mv (.t 3), (some (37, true)), [], false⟩,
                    ⟨(some 42), .bin .sub (.t 41) (.k (.int .i64 1)), (some (37, true)), [], false⟩,
                    ⟨(some 43), .iad 2 (.t 40) (.t 42), (some (37, true)), [], false⟩,
                    ⟨(some 44), .fad 0 (.t 43), (some (37, true)), [], false⟩,
                    ⟨(some 45), .ld1 (.t 44), (some (37, true)), [], false⟩,
                    ⟨(some 46), .bin .leq (.t 39) (.t 45), (some (37, true)), [], false⟩,
                    ⟨(some 47), .pick (.t 37) (.t 46) (.k (.bool false)), none, [], false⟩,
                    ⟨(some 34), .mv (.t 47), none, [], false⟩])
                  (.cond (.t 34) (.seq (.reg [
                      ⟨(some 2), .mv (.k (.int .i64 12)), none, [], false⟩])
                    (.ret))
                   (.skip))))))))
            (.reg [
              ⟨(some 48), .bin .add (.t 10) (.k (.int .i64 1)), none, [], false⟩,
              ⟨(some 10), .mv (.t 48), none, [], false⟩])))))))
      (.seq (.reg [
         ⟨(some 2), .mv (.k (.int .i64 0)), none, [], false⟩])
       (.ret))))
/-- skyway/num.DivDown -/
def c46 : CF where
  np := 2
  nt := 34
  res := [.t 4, .t 5]
  code := .seq (.reg [
      ⟨(some 4), .mv (.k (.int .i64 0)), none, [], false⟩,
      ⟨(some 5), .mv (.k (.int .i64 0)), none, [], false⟩])
    (.seq (.blk 0 (.seq (.reg [
         ⟨(some 8), .mv (.t 1), none, [], false⟩,
         ⟨(some 9), .bin .eql (.t 8) (.k (.int .i64 0)), none, [], false⟩,
         ⟨(some 7), .mv (.t 9), none, [], false⟩])
       (.cond (.t 7) (.seq (.reg [
           ⟨(some 4), .mv (.k (.int .i64 0)), none, [], false⟩,
           ⟨(some 5), .mv (.k (.int .i64 10)), none, [], false⟩])
         (.ret))
        (.seq (.reg [
           ⟨(some 11), .mv (.t 0), none, [], false⟩,
           ⟨(some 12), .bin .eql (.t 11) (.k (.int .i64 (-9223372036854775808))), none, [], false⟩,
           ⟨(some 13), .mv (.t 12), none, [], false⟩,
           ⟨(some 14), .mv (.t 1), (some (13, true)), [], false⟩,
           ⟨(some 15), .bin .eql (.t 14) (.k (.int .i64 (-1))), (some (13, true)), [], false⟩,
           ⟨(some 16), .pick (.t 13) (.t 15) (.k (.bool false)), none, [], false⟩,
           ⟨(some 10), .mv (.t 16), none, [], false⟩])
         (.cond (.t 10) (.seq (.reg [
             ⟨(some 4), .mv (.k (.int .i64 0)), none, [], false⟩,
             ⟨(some 5), .mv (.k (.int .i64 2)), none, [], false⟩])
           (.ret))
          (.skip))))))
     (.seq (.reg [
        ⟨(some 17), .mv (.t 0), none, [], false⟩,
        ⟨(some 18), .mv (.t 1), none, [], false⟩,
        ⟨(some 19), .bin .quo (.t 17) (.t 18), none, [], false⟩,
        ⟨(some 6), .mv (.t 19), none, [], false⟩])
      (.seq (.seq (.reg [
          ⟨(some 20), .mv (.t 0), none, [], false⟩,
          ⟨(some 21), .mv (.t 1), none, [], false⟩,
          ⟨(some 22), .bin .rem (.t 20) (.t 21), none, [], false⟩,
          ⟨(some 23), .bin .neq (.t 22) (.k (.int .i64 0)), none, [], false⟩,
          ⟨(some 24), .mv (.t 23), none, [], false⟩,
          ⟨(some 25), .mv (.t 0), (some (24, true)), [], false⟩,
          ⟨(some 26), .bin .lss (.t 25) (.k (.int .i64 0)), (some (24, true)), [], false⟩,
          ⟨(some 27), .mv (.t 1), (some (24, true)), [], false⟩,
          ⟨(some 28), .bin .lss (.t 27) (.k (.int .i64 0)), (some (24, true)), [], false⟩,
          ⟨(some 29), .eqs true none (.t 26) (.t 28), (some (24, true)), [], false⟩,
          ⟨(some 30), .pick (.t 24) (.t 29) (.k (.bool false)), none, [], false⟩])
        (.cond (.t 30) (.reg [
           ⟨(some 31), .mv (.t 6), none, [], false⟩,
           ⟨(some 32), .bin .sub (.t 31) (.k (.int .i64 1)), none, [], false⟩,
           ⟨(some 6), .mv (.t 32), none, [], false⟩])
         (.skip)))
       (.seq (.reg [
          ⟨(some 33), .mv (.t 6), none, [], false⟩,
          ⟨(some 4), .mv (.t 33), none, [], false⟩,
          ⟨(some 5), .mv (.k (.int .i64 0)), none, [], false⟩])
        (.ret)))))
/-- skyway/num.DivUp -/
def c47 : CF where
  np := 2
  nt := 26
  res := [.t 4, .t 5]
  code := .seq (.reg [
      ⟨(some 4), .mv (.k (.int .i64 0)), none, [], false⟩,
      ⟨(some 5), .mv (.k (.int .i64 0)), none, [], false⟩])
    (.seq (.reg [
       ⟨(some 9), .mv (.t 0), none, [], false⟩,
       ⟨(some 10), .mv (.t 1), none, [], false⟩,
       ⟨(some 11), .call (.k (.fn 46 [])) [(.t 9), (.t 10)], none, [], false⟩,
       ⟨(some 8), .mv (.t 11), none, [], false⟩,
       ⟨(some 12), .ext (.t 8) 0, none, [], false⟩,
       ⟨(some 13), .ext (.t 8) 1, none, [], false⟩,
       ⟨(some 6), .mv (.t 12), none, [], false⟩,
       ⟨(some 7), .mv (.t 13), none, [], false⟩])
     (.seq (.seq (.reg [
         ⟨(some 14), .mv (.t 7), none, [], false⟩,
         ⟨(some 15), .bin .eql (.t 14) (.k (.int .i64 0)), none, [], false⟩,
         ⟨(some 16), .mv (.t 15), none, [], false⟩,
         ⟨(some 17), .mv (.t 0), (some (16, true)), [], false⟩,
         ⟨(some 18), .mv (.t 1), (some (16, true)), [], false⟩,
         ⟨(some 19), .bin .rem (.t 17) (.t 18), (some (16, true)), [], false⟩,
         ⟨(some 20), .bin .neq (.t 19) (.k (.int .i64 0)), (some (16, true)), [], false⟩,
         ⟨(some 21), .pick (.t 16) (.t 20) (.k (.bool false)), none, [], false⟩])
       (.cond (.t 21) (.reg [
          ⟨(some 22), .mv (.t 6), none, [], false⟩,
          ⟨(some 23), .bin .add (.t 22) (.k (.int .i64 1)), none, [], false⟩,
          ⟨(some 6), .mv (.t 23), none, [], false⟩])
        (.skip)))
      (.seq (.reg [
         ⟨(some 24), .mv (.t 6), none, [], false⟩,
         ⟨(some 25), .mv (.t 7), none, [], false⟩,
         ⟨(some 4), .mv (.t 24), none, [], false⟩,
         ⟨(some 5), .mv (.t 25), none, [], false⟩])
       (.ret))))
/-- skyway/climb.Rates -/
def c19 : CF where
  np := 1
  nt := 80
  res := [.t 2, .t 3, .t 4]
  code := .seq (.reg [
      ⟨(some 2), .mv (.k (.int .i64 0)), none, [], false⟩,
      ⟨(some 3), .mv (.k (.int .i64 0)), none, [], false⟩,
      ⟨(some 4), .mv (.k (.int .i64 0)), none, [], false⟩])
    (.seq (.seq (.reg [
        ⟨(some 18), .mv (.t 0), none, [], false⟩,
        ⟨(some 19), .call (.k (.fn 45 [])) [(.t 18)], none, [], false⟩,
        ⟨(some 5), .mv (.t 19), none, [], false⟩])
      (.seq (.reg [
         ⟨(some 20), .mv (.t 5), none, [], false⟩,
         ⟨(some 21), .bin .neq (.t 20) (.k (.int .i64 0)), none, [], false⟩])
       (.cond (.t 21) (.seq (.reg [
           ⟨(some 22), .mv (.t 5), none, [], false⟩,
           ⟨(some 2), .mv (.k (.int .i64 0)), none, [], false⟩,
           ⟨(some 3), .mv (.k (.int .i64 0)), none, [], false⟩,
           ⟨(some 4), .mv (.t 22), none, [], false⟩])
         (.ret))
        (.skip))))
     (.seq (.reg [
        ⟨(some 6), .mv (.k (.int .i64 (-3200))), none, [], false⟩,
        ⟨(some 7), .mv (.k (.int .i64 3200)), none, [], false⟩])
      (.seq (.seq (.reg [
          ⟨(some 23), .mv (.t 0), none, [], false⟩,
          ⟨(some 24), .lenv false (.t 23), none, [], false⟩,
          ⟨(some 25), .mv (.k (.int .i64 0)), none, [], false⟩])
        (.blk 0 (.loop (.seq (.reg [
             ⟨(some 26), .bin .lss (.t 25) (.t 24), none, [], false⟩])
           (.seq (.cond (.t 26) (.skip)
             (.exit 0))
            (.seq (.blk 1 (.seq (.reg [
                 ⟨(some 27), .mv (.t 25), none, [], false⟩,
                 ⟨(some 28), .iad 2 (.t 23) (.t 25), none, [], false⟩,
                 ⟨(some 29), .ldn 2 (.t 28), none, [], false⟩,
                 ⟨(some 9), .new [.int .i64 0, .int .i64 0], none, [], false⟩,
                 ⟨(some 8), .mv (.t 27), none, [], false⟩,
                 ⟨none, .st 2 (.t 9) (.t 29), none, [], false⟩])
               (.seq (.reg [
                  ⟨(some 30), .mv (.t 0), none, [], false⟩,
                  ⟨(some 31), .mv (.t 8), none, [], false⟩,
                  ⟨(some 32), .slc 2 (.t 30) none (some (.t 31)), none, [], false⟩,
                  ⟨(some 33), .lenv false (.t 32), none, [], false⟩,
                  ⟨(some 34), .mv (.k (.int .i64 0)), none, [], false⟩])
                (.blk 2 (.loop (.seq (.reg [
                     ⟨(some 35), .bin .lss (.t 34) (.t 33), none, [], false⟩])
                   (.seq (.cond (.t 35) (.skip)
                     (.exit 2))
                    (.seq (.blk 3 (.seq (.reg [
                         ⟨(some 36), .iad 2 (.t 32) (.t 34), none, [], false⟩,
                         ⟨(some 37), .ldn 2 (.t 36), none, [], false⟩,
                         ⟨(some 11), .new [.int .i64 0, .int .i64 0], none, [], false⟩,
                         ⟨none, .st 2 (.t 11) (.t 37), none, [], false⟩])
                       (.seq (.reg [
                          ⟨(some 38), .fad 0 (.t 9), none, [], false⟩,
                          ⟨(some 39), .ld1 (.t 38), none, [], false⟩,
                          ⟨(some 40), .fad 0 (.t 11), none, [], false⟩,
                          ⟨(some 41), .ld1 (.t 40), none, [], false⟩,
                          ⟨(some 42), .bin .sub (.t 39) (.t 41), none, [], false⟩,
                          ⟨(some 12), .mv (.t 42), none, [], false⟩])
                        (.seq (.reg [
                           ⟨(some 43), .fad 1 (.t 9), none, [], false⟩,
                           ⟨(some 44), .ld1 (.t 43), none, [], false⟩,
                           ⟨(some 45), .fad 1 (.t 11), none, [], false⟩,
                           ⟨(some 46), .ld1 (.t 45), none, [], false⟩,
                           ⟨(some 47), .bin .sub (.t 44) (.t 46), none, [], false⟩,
                           ⟨(some 48), .bin .mul (.k (.int .i64 100)) (.t 47), none, [], false⟩,
                           ⟨(some 13), .mv (.t 48), none, [], false⟩])
                         (.seq (.reg [
                            ⟨(some 50), .mv (.t 13), none, [], false⟩,
                            ⟨(some 51), .bin .sub (.t 50) (.k (.int .i64 100)), none, [], false⟩,
                            ⟨(some 52), .bin .add (.t 51) (.k (.int .i64 1)), none, [], false⟩,
                            ⟨(some 53), .bin .mul (.k (.int .i64 16)) (.t 52), none, [], false⟩,
                            ⟨(some 54), .mv (.t 12), none, [], false⟩,
                            ⟨(some 55), .call (.k (.fn 46 [])) [(.t 53), (.t 54)], none, [], false⟩,
                            ⟨(some 49), .mv (.t 55), none, [], false⟩,
                            ⟨(some 56), .ext (.t 49) 0, none, [], false⟩,
                            ⟨(some 57), .ext (.t 49) 1, none, [], false⟩,
                            ⟨(some 14), .mv (.t 56), none, [], false⟩,
                            ⟨(some 15), .mv (.t 57), none, [], false⟩])
                          (.seq (.reg [
                             ⟨(some 59), .mv (.t 13), none, [], false⟩,
                             ⟨(some 60), .bin .add (.t 59) (.k (.int .i64 100)), none, [], false⟩,
                             ⟨(some 61), .bin .sub (.t 60) (.k (.int .i64 1)), none, [], false⟩,
                             ⟨(some 62), .bin .mul (.k (.int .i64 16)) (.t 61), none, [], false⟩,
                             ⟨(some 63), .mv (.t 12), none, [], false⟩,
                             ⟨(some 64), .call (.k (.fn 47 [])) [(.t 62), (.t 63)], none, [], false⟩,
                             ⟨(some 58), .mv (.t 64), none, [], false⟩,
                             ⟨(some 65), .ext (.t 58) 0, none, [], false⟩,
                             ⟨(some 66), .ext (.t 58) 1, none, [], false⟩,
                             ⟨(some 16), .mv (.t 65), none, [], false⟩,
                             ⟨(some 17), .mv (.t 66), none, [], false⟩])
                           (.reg [
                             ⟨(some 67), .mv (.t 6), none, [], false⟩,
                             ⟨(some 68), .mv (.t 14), none, [], false⟩,
                             ⟨(some 69), .mnx true (.t 67) [(.t 68)], none, [], false⟩,
                             ⟨(some 70), .mv (.t 7), none, [], false⟩,
                             ⟨(some 71), .mv (.t 16), none, [], false⟩,
                             ⟨(some 72), .mnx false (.t 70) [(.t 71)], none, [], false⟩,
                             ⟨(some 6), .mv (.t 69), none, [], false⟩,
                             ⟨(some 7), .mv (.t 72), none, [], false⟩])))))))
                     (.reg [
                       ⟨(some 73), .bin .add (.t 34) (.k (.int .i64 1)), none, [], false⟩,
                       ⟨(some 34), .mv (.t 73), none, [], false⟩])))))))))
             (.reg [
               ⟨(some 74), .bin .add (.t 25) (.k (.int .i64 1)), none, [], false⟩,
               ⟨(some 25), .mv (.t 74), none, [], false⟩])))))))
       (.seq (.seq (.reg [
           ⟨(some 75), .mv (.t 6), none, [], false⟩,
           ⟨(some 76), .mv (.t 7), none, [], false⟩,
           ⟨(some 77), .bin .gtr (.t 75) (.t 76), none, [], false⟩])
         (.cond (.t 77) (.seq (.reg [
             ⟨(some 2), .mv (.k (.int .i64 0)), none, [], false⟩,
             ⟨(some 3), .mv (.k (.int .i64 0)), none, [], false⟩,
             ⟨(some 4), .mv (.k (.int .i64 8)), none, [], false⟩])
           (.ret))
          (.skip)))
        (.seq (.reg [
           ⟨(some 78), .mv (.t 6), none, [], false⟩,
           ⟨(some 79), .mv (.t 7), none, [], false⟩,
           ⟨(some 2), .mv (.t 78), none, [], false⟩,
           ⟨(some 3), .mv (.t 79), none, [], false⟩,
           ⟨(some 4), .mv (.k (.int .i64 0)), none, [], false⟩])
         (.ret))))))
/-- skyway/climb.Heights -/
def c20 : CF where
  np := 2
  nt := 88
  res := [.t 4, .t 5, .t 6]
  code := .seq (.reg [
      ⟨(some 4), .mv (.k (.int .i64 0)), none, [], false⟩,
      ⟨(some 5), .mv (.k (.int .i64 0)), none, [], false⟩,
      ⟨(some 6), .mv (.k (.int .i64 0)), none, [], false⟩])
    (.seq (.reg [
       ⟨(some 22), .mv (.t 0), none, [], false⟩,
       ⟨(some 23), .call (.k (.fn 19 [])) [(.t 22)], none, [], false⟩,
       ⟨(some 21), .mv (.t 23), none, [], false⟩,
       ⟨(some 24), .ext (.t 21) 0, none, [], false⟩,
       ⟨(some 25), .ext (.t 21) 1, none, [], false⟩,
       ⟨(some 26), .ext (.t 21) 2, none, [], false⟩,
       ⟨(some 7), .mv (.t 24), none, [], false⟩,
       ⟨(some 8), .mv (.t 25), none, [], false⟩,
       ⟨(some 9), .mv (.t 26), none, [], false⟩])
     (.seq (.seq (.reg [
         ⟨(some 27), .mv (.t 9), none, [], false⟩,
         ⟨(some 28), .bin .neq (.t 27) (.k (.int .i64 0)), none, [], false⟩])
       (.cond (.t 28) (.seq (.reg [
           ⟨(some 29), .mv (.t 9), none, [], false⟩,
           ⟨(some 4), .mv (.k (.int .i64 0)), none, [], false⟩,
           ⟨(some 5), .mv (.k (.int .i64 0)), none, [], false⟩,
           ⟨(some 6), .mv (.t 29), none, [], false⟩])
         (.ret))
        (.skip)))
      (.seq (.seq (.reg [
          ⟨(some 30), .mv (.t 1), none, [], false⟩,
          ⟨(some 31), .bin .lss (.t 30) (.k (.int .i64 0)), none, [], false⟩,
          ⟨(some 32), .mv (.t 31), none, [], false⟩,
          ⟨(some 33), .mv (.t 1), (some (32, false)), [], false⟩,
          ⟨(some 34), .bin .gtr (.t 33) (.k (.int .i64 200000)), (some (32, false)), [], false⟩,
          ⟨(some 35), .pick (.t 32) (.k (.bool true)) (.t 34), none, [], false⟩])
        (.cond (.t 35) (.seq (.reg [
            ⟨(some 4), .mv (.k (.int .i64 0)), none, [], false⟩,
            ⟨(some 5), .mv (.k (.int .i64 0)), none, [], false⟩,
            ⟨(some 6), .mv (.k (.int .i64 4)), none, [], false⟩])
          (.ret))
         (.skip)))
       (.seq (.reg [
          ⟨(some 10), .mv (.k (.int .i64 0)), none, [], false⟩,
          ⟨(some 11), .mv (.k (.int .i64 60000)), none, [], false⟩])
        (.seq (.seq (.reg [
            ⟨(some 36), .mv (.t 0), none, [], false⟩,
            ⟨(some 37), .lenv false (.t 36), none, [], false⟩,
            ⟨(some 38), .mv (.k (.int .i64 0)), none, [], false⟩])
          (.blk 0 (.loop (.seq (.reg [
               ⟨(some 39), .bin .lss (.t 38) (.t 37), none, [], false⟩])
             (.seq (.cond (.t 39) (.skip)
               (.exit 0))
              (.seq (.blk 1 (.seq (.reg [
                   ⟨(some 40), .iad 2 (.t 36) (.t 38), none, [], false⟩,
                   ⟨(some 41), .ldn 2 (.t 40), none, [], false⟩,
                   ⟨(some 13), .new [.int .i64 0, .int .i64 0], none, [], false⟩,
                   ⟨none, .st 2 (.t 13) (.t 41), none, [], false⟩])
                 (.seq (.reg [
                    ⟨(some 42), .mv (.t 1), none, [], false⟩,
                    ⟨(some 43), .fad 0 (.t 13), none, [], false⟩,
                    ⟨(some 44), .ld1 (.t 43), none, [], false⟩,
                    ⟨(some 45), .bin .sub (.t 42) (.t 44), none, [], false⟩,
                    ⟨(some 14), .mv (.t 45), none, [], false⟩])
                  (.seq (.reg [
                     ⟨(some 46), .mv (.t 7), none, [], false⟩,
                     ⟨(some 47), .mv (.t 14), none, [], false⟩,
                     ⟨(some 48), .bin .mul (.t 46) (.t 47), none, [], false⟩,
                     ⟨(some 49), .mv (.t 8), none, [], false⟩,
                     ⟨(some 50), .mv (.t 14), none, [], false⟩,
                     ⟨(some 51), .bin .mul (.t 49) (.t 50), none, [], false⟩,
                     ⟨(some 15), .mv (.t 48), none, [], false⟩,
                     ⟨(some 16), .mv (.t 51), none, [], false⟩])
                   (.seq (.seq (.reg [
                       ⟨(some 52), .mv (.t 14), none, [], false⟩,
                       ⟨(some 53), .bin .lss (.t 52) (.k (.int .i64 0)), none, [], false⟩])
                     (.cond (.t 53) (.reg [
                        ⟨(some 54), .mv (.t 16), none, [], false⟩,
                        ⟨(some 55), .mv (.t 15), none, [], false⟩,
                        ⟨(some 15), .mv (.t 54), none, [], false⟩,
                        ⟨(some 16), .mv (.t 55), none, [], false⟩])
                      (.skip)))
                    (.seq (.reg [
                       ⟨(some 57), .mv (.t 15), none, [], false⟩,
                       ⟨(some 58), .call (.k (.fn 46 [])) [(.t 57), (.k (.int .i64 16))], none, [], false⟩,
                       ⟨(some 56), .mv (.t 58), none, [], false⟩,
                       ⟨(some 59), .ext (.t 56) 0, none, [], false⟩,
                       ⟨(some 60), .ext (.t 56) 1, none, [], false⟩,
                       ⟨(some 17), .mv (.t 59), none, [], false⟩,
                       ⟨(some 18), .mv (.t 60), none, [], false⟩])
                     (.seq (.reg [
                        ⟨(some 62), .mv (.t 16), none, [], false⟩,
                        ⟨(some 63), .call (.k (.fn 47 [])) [(.t 62), (.k (.int .i64 16))], none, [], false⟩,
                        ⟨(some 61), .mv (.t 63), none, [], false⟩,
                        ⟨(some 64), .ext (.t 61) 0, none, [], false⟩,
                        ⟨(some 65), .ext (.t 61) 1, none, [], false⟩,
                        ⟨(some 19), .mv (.t 64), none, [], false⟩,
                        ⟨(some 20), .mv (.t 65), none, [], false⟩])
                      (.reg [
                        ⟨(some 66), .mv (.t 10), none, [], false⟩,
                        ⟨(some 67), .fad 1 (.t 13), none, [], false⟩,
                        ⟨(some 68), .ld1 (.t 67), none, [], false⟩,
                        ⟨(some 69), .bin .mul (.k (.int .i64 100)) (.t 68), none, [], false⟩,
                        ⟨(some 70), .mv (.t 17), none, [], false⟩,
                        ⟨(some 71), .bin .add (.t 69) (.t 70), none, [], false⟩,
                        ⟨(some 72), .mnx true (.t 66) [(.t 71)], none, [], false⟩,
                        ⟨(some 73), .mv (.t 11), none, [], false⟩,
                        ⟨(some 74), .fad 1 (.t 13), none, [], false⟩,
                        ⟨(some 75), .ld1 (.t 74), none, [], false⟩,
                        ⟨(some 76), .bin .mul (.k (.int .i64 100)) (.t 75), none, [], false⟩,
                        ⟨(some 77), .bin .add (.t 76) (.k (.int .i64 100)), none, [], false⟩,
                        ⟨(some 78), .bin .sub (.t 77) (.k (.int .i64 1)), none, [], false⟩,
                        ⟨(some 79), .mv (.t 19), none, [], false⟩,
                        ⟨(some 80), .bin .add (.t 78) (.t 79), none, [], false⟩,
                        ⟨(some 81), .mnx false (.t 73) [(.t 80)], none, [], false⟩,
                        ⟨(some 10), .mv (.t 72), none, [], false⟩,
                        ⟨(some 11), .mv (.t 81), none, [], false⟩]))))))))
               (.reg [
                 ⟨(some 82), .bin .add (.t 38) (.k (.int .i64 1)), none, [], false⟩,
                 ⟨(some 38), .mv (.t 82), none, [], false⟩])))))))
         (.seq (.seq (.reg [
             ⟨(some 83), .mv (.t 10), none, [], false⟩,
             ⟨(some 84), .mv (.t 11), none, [], false⟩,
             ⟨(some 85), .bin .gtr (.t 83) (.t 84), none, [], false⟩])
           (.cond (.t 85) (.seq (.reg [
               ⟨(some 4), .mv (.k (.int .i64 0)), none, [], false⟩,
               ⟨(some 5), .mv (.k (.int .i64 0)), none, [], false⟩,
               ⟨(some 6), .mv (.k (.int .i64 8)), none, [], false⟩])
             (.ret))
            (.skip)))
          (.seq (.reg [
             ⟨(some 86), .mv (.t 10), none, [], false⟩,
             ⟨(some 87), .mv (.t 11), none, [], false⟩,
             ⟨(some 4), .mv (.t 86), none, [], false⟩,
             ⟨(some 5), .mv (.t 87), none, [], false⟩,
             ⟨(some 6), .mv (.k (.int .i64 0)), none, [], false⟩])
           (.ret))))))))
/-- skyway/skywaykeep2.ClimbHolds -/
def c3 : CF where
  np := 3
  nt := 115
  res := [.t 6]
  code := .seq (.reg [
      ⟨(some 6), .mv (.k (.bool false)), none, [], false⟩])
    (.seq (.seq (.reg [
        ⟨(some 21), .call (.k (.fn 15 [])) [(.k (.int .i64 5199))], none, [], false⟩,
        ⟨(some 20), .mv (.t 21), none, [], false⟩,
        ⟨(some 22), .ext (.t 20) 0, none, [], false⟩,
        ⟨(some 23), .ext (.t 20) 1, none, [], false⟩,
        ⟨(some 7), .mv (.t 22), none, [], false⟩,
        ⟨(some 8), .mv (.t 23), none, [], false⟩])
      (.seq (.reg [
         ⟨(some 24), .mv (.t 8), none, [], false⟩,
         ⟨(some 25), .bin .neq (.t 24) (.k (.int .i64 0)), none, [], false⟩,
         ⟨(some 26), .mv (.t 25), none, [], false⟩,
         ⟨(some 27), .mv (.t 7), (some (26, false)), [], false⟩,
         ⟨(some 28), .bin .neq (.t 27) (.k (.int .i64 51)), (some (26, false)), [], false⟩,
         ⟨(some 29), .pick (.t 26) (.k (.bool true)) (.t 28), none, [], false⟩])
       (.cond (.t 29) (.seq (.reg [
           ⟨(some 6), .mv (.k (.bool false)), none, [], false⟩])
         (.ret))
        (.skip))))
     (.seq (.reg [
        ⟨(some 30), .mv (.t 0), none, [], false⟩,
        ⟨(some 31), .call (.k (.fn 16 [])) [(.t 30), (.k (.int .i64 20000)), (.k (.int .i64 40000))], none, [], false⟩,
        ⟨(some 32), .mv (.t 1), none, [], false⟩,
        ⟨(some 33), .call (.k (.fn 16 [])) [(.t 32), (.k (.int .i64 (-100))), (.k (.int .i64 100))], none, [], false⟩,
        ⟨(some 0), .mv (.t 31), none, [], false⟩,
        ⟨(some 1), .mv (.t 33), none, [], false⟩])
      (.seq (.reg [
         ⟨(some 9), .mv (.k (.sl true 0 0 0 0 0)), none, [], false⟩])
       (.seq (.seq (.reg [
           ⟨(some 34), .mv (.k (.int .i64 0)), none, [], false⟩])
         (.blk 0 (.loop (.seq (.reg [
              ⟨(some 35), .bin .lss (.t 34) (.k (.int .i64 100)), none, [], false⟩])
            (.seq (.cond (.t 35) (.skip)
              (.exit 0))
             (.seq (.blk 1 (.seq (.reg [
                  ⟨(some 36), .mv (.t 34), none, [], false⟩,
                  ⟨(some 10), .new [.int .i64 0], none, [], false⟩,
                  ⟨none, .st 1 (.t 10) (.t 36), none, [], false⟩])
                (.seq (.seq (.reg [
                    ⟨(some 37), .mv (.t 2), none, [], false⟩,
                    ⟨(some 38), .mkf 18 [(.t 10)], none, [], false⟩,
                    ⟨(some 39), .call (.k (.fn 17 [])) [(.t 37), (.t 38)], none, [], false⟩,
                    ⟨(some 40), .un .not (.t 39), none, [], false⟩,
                    ⟨(some 41), .mv (.t 40), none, [], false⟩,
                    ⟨(some 42), .mv (.t 9), (some (41, false)), [], false⟩,
                    ⟨(some 43), .lenv false (.t 42), (some (41, false)), [], false⟩,
                    ⟨(some 44), .bin .eql (.t 43) (.k (.int .i64 8)), (some (41, false)), [], false⟩,
                    ⟨(some 45), .pick (.t 41) (.k (.bool true)) (.t 44), none, [], false⟩])
                  (.cond (.t 45) (.exit 1)
                   (.skip)))
                 (.seq (.reg [
                    ⟨(some 47), .mv (.t 0), none, [], false⟩,
                    ⟨(some 48), .mv (.t 1), none, [], false⟩,
                    ⟨(some 49), .ld1 (.t 10), none, [], false⟩,
                    ⟨(some 50), .bin .mul (.t 48) (.t 49), none, [], false⟩,
                    ⟨(some 51), .bin .add (.t 47) (.t 50), none, [], false⟩,
                    ⟨(some 52), .call (.k (.fn 15 [])) [(.t 51)], none, [], false⟩,
                    ⟨(some 46), .mv (.t 52), none, [], false⟩,
                    ⟨(some 53), .ext (.t 46) 0, none, [], false⟩,
                    ⟨(some 54), .ext (.t 46) 1, none, [], false⟩,
                    ⟨(some 11), .mv (.t 53), none, [], false⟩,
                    ⟨(some 12), .mv (.t 54), none, [], false⟩])
                  (.seq (.seq (.reg [
                      ⟨(some 55), .mv (.t 12), none, [], false⟩,
                      ⟨(some 56), .bin .neq (.t 55) (.k (.int .i64 0)), none, [], false⟩])
                    (.cond (.t 56) (.seq (.reg [
                        ⟨(some 6), .mv (.k (.bool false)), none, [], false⟩])
                      (.ret))
                     (.skip)))
                   (.reg [
                     ⟨(some 57), .mv (.t 9), none, [], false⟩,
                     ⟨(some 58), .ld1 (.t 10), none, [], false⟩,
                     ⟨(some 59), .mv (.t 11), none, [], false⟩,
                     ⟨(some 60), .mk [.int .i64 0, .int .i64 0] [(0, 1, (.t 58)), (1, 1, (.t 59))], none, [], false⟩,
                     ⟨(some 61), .mks [.int .i64 0, .int .i64 0] 2 1 [(0, 2, (.t 60))], none, [], false⟩,
                     ⟨(some 62), .app 2 16 (.t 57) (.t 61), none, [], false⟩,
                     ⟨(some 9), .mv (.t 62), none, [], false⟩]))))))
              (.reg [
                ⟨(some 63), .bin .add (.t 34) (.k (.int .i64 1)), none, [], false⟩,
                ⟨(some 34), .mv (.t 63), none, [], false⟩])))))))
        (.seq (.reg [
           ⟨(some 65), .mv (.t 9), none, [], false⟩,
           ⟨(some 66), .call (.k (.fn 19 [])) [(.t 65)], none, [], false⟩,
           ⟨(some 64), .mv (.t 66), none, [], false⟩,
           ⟨(some 67), .ext (.t 64) 0, none, [], false⟩,
           ⟨(some 68), .ext (.t 64) 1, none, [], false⟩,
           ⟨(some 69), .ext (.t 64) 2, none, [], false⟩,
           ⟨(some 13), .mv (.t 67), none, [], false⟩,
           ⟨(some 14), .mv (.t 68), none, [], false⟩,
           ⟨(some 15), .mv (.t 69), none, [], false⟩])
         (.seq (.seq (.reg [
             ⟨(some 70), .mv (.t 15), none, [], false⟩,
             ⟨(some 71), .bin .neq (.t 70) (.k (.int .i64 0)), none, [], false⟩,
             ⟨(some 72), .mv (.t 71), none, [], false⟩,
             ⟨(some 73), .mv (.t 1), (some (72, false)), [], false⟩,
             ⟨(some 74), .bin .mul (.k (.int .i64 16)) (.t 73), (some (72, false)), [], false⟩,
             ⟨(some 75), .mv (.t 13), (some (72, false)), [], false⟩,
             ⟨(some 76), .bin .lss (.t 74) (.t 75), (some (72, false)), [], false⟩,
             ⟨(some 77), .pick (.t 72) (.k (.bool true)) (.t 76), none, [], false⟩,
             ⟨(some 78), .mv (.t 77), none, [], false⟩,
             ⟨(some 79), .mv (.t 1), (some (78, false)), [], false⟩,
             ⟨(some 80), .bin .mul (.k (.int .i64 16)) (.t 79), (some (78, false)), [], false⟩,
             ⟨(some 81), .mv (.t 14), (some (78, false)), [], false⟩,
             ⟨(some 82), .bin .gtr (.t 80) (.t 81), (some (78, false)), [], false⟩,
             ⟨(some 83), .pick (.t 78) (.k (.bool true)) (.t 82), none, [], false⟩])
           (.cond (.t 83) (.seq (.reg [
               ⟨(some 6), .mv (.k (.bool false)), none, [], false⟩])
             (.ret))
            (.skip)))
          (.seq (.seq (.reg [
              ⟨(some 16), .mv (.k (.int .i64 0)), none, [], false⟩])
            (.blk 2 (.loop (.seq (.seq (.reg [
                  ⟨(some 84), .mv (.t 16), none, [], false⟩,
                  ⟨(some 85), .bin .lss (.t 84) (.k (.int .i64 140)), none, [], false⟩])
                (.cond (.t 85) (.skip)
                 (.exit 2)))
               (.seq (.blk 3 (.seq (.reg [
                    ⟨(some 89), .mv (.t 9), none, [], false⟩,
                    ⟨(some 90), .mv (.t 16), none, [], false⟩,
                    ⟨(some 91), .call (.k (.fn 20 [])) [(.t 89), (.t 90)], none, [], false⟩,
                    ⟨(some 88), .mv (.t 91), none, [], false⟩,
                    ⟨(some 92), .ext (.t 88) 0, none, [], false⟩,
                    ⟨(some 93), .ext (.t 88) 1, none, [], false⟩,
                    ⟨(some 94), .ext (.t 88) 2, none, [], false⟩,
                    ⟨(some 17), .mv (.t 92), none, [], false⟩,
                    ⟨(some 18), .mv (.t 93), none, [], false⟩,
                    ⟨(some 19), .mv (.t 94), none, [], false⟩])
                  (.seq (.reg [
                     ⟨(some 95), .mv (.t 19), none, [], false⟩,
                     ⟨(some 96), .bin .neq (.t 95) (.k (.int .i64 0)), none, [], false⟩,
                     ⟨(some 97), .mv (.t 96), none, [], false⟩,
                     ⟨(some 98), .mv (.t 0), (some (97, false)), [], false⟩,
                     ⟨(some 99), .mv (.t 1), (some (97, false)), [], false⟩,
                     ⟨(some 100), .mv (.t 16), (some (97, false)), [], false⟩,
                     ⟨(some 101), .bin .mul (.t 99) (.t 100), (some (97, false)), [], false⟩,
                     ⟨(some 102), .bin .add (.t 98) (.t 101), (some (97, false)), [], false⟩,
                     ⟨(some 103), .mv (.t 17), (some (97, false)), [], false⟩,
                     ⟨(some 104), .bin .lss (.t 102) (.t 103), (some (97, false)), [], false⟩,
                     ⟨(some 105), .pick (.t 97) (.k (.bool true)) (.t 104), none, [], false⟩,
                     ⟨(some 106), .mv (.t 105), none, [], false⟩,
                     ⟨(some 107), .mv (.t 0), (some (106, false)), [], false⟩,
                     ⟨(some 108), .mv (.t 1), (some (106, false)), [], false⟩,
                     ⟨(some 109), .mv (.t 16), (some (106, false)), [], false⟩,
                     ⟨(some 110), .bin .mul (.t 108) (.t 109), (some (106, false)), [], false⟩,
                     ⟨(some 111), .bin .add (.t 107) (.t 110), (some (106, false)), [], false⟩,
                     ⟨(some 112), .mv (.t 18), (some (106, false)), [], false⟩,
                     ⟨(some 113), .bin .gtr (.t 111) (.t 112), (some (106, false)), [], false⟩,
                     ⟨(some 114), .pick (.t 106) (.k (.bool true)) (.t 113), none, [], false⟩])
                   (.cond (.t 114) (.seq (.reg [
                       ⟨(some 6), .mv (.k (.bool false)), none, [], false⟩])
                     (.ret))
                    (.skip)))))
                (.reg [
                  ⟨(some 86), .mv (.t 16), none, [], false⟩,
                  ⟨(some 87), .bin .add (.t 86) (.k (.int .i64 7)), none, [], false⟩,
                  ⟨(some 16), .mv (.t 87), none, [], false⟩]))))))
           (.seq (.reg [
              ⟨(some 6), .mv (.k (.bool true)), none, [], false⟩])
            (.ret)))))))))
/-- skyway/climb.Through -/
def c21 : CF where
  np := 4
  nt := 94
  res := [.t 8, .t 9]
  code := .seq (.reg [
      ⟨(some 8), .mv (.k (.int .i64 0)), none, [], false⟩,
      ⟨(some 9), .mv (.k (.int .i64 0)), none, [], false⟩])
    (.seq (.seq (.reg [
        ⟨(some 16), .mv (.t 0), none, [], false⟩,
        ⟨(some 17), .call (.k (.fn 45 [])) [(.t 16)], none, [], false⟩,
        ⟨(some 10), .mv (.t 17), none, [], false⟩])
      (.seq (.reg [
         ⟨(some 18), .mv (.t 10), none, [], false⟩,
         ⟨(some 19), .bin .neq (.t 18) (.k (.int .i64 0)), none, [], false⟩])
       (.cond (.t 19) (.seq (.reg [
           ⟨(some 20), .mv (.t 10), none, [], false⟩,
           ⟨(some 8), .mv (.k (.int .i64 0)), none, [], false⟩,
           ⟨(some 9), .mv (.t 20), none, [], false⟩])
         (.ret))
        (.skip))))
     (.seq (.seq (.reg [
         ⟨(some 21), .mv (.t 1), none, [], false⟩,
         ⟨(some 22), .bin .lss (.t 21) (.k (.int .i64 0)), none, [], false⟩,
         ⟨(some 23), .mv (.t 22), none, [], false⟩,
         ⟨(some 24), .mv (.t 1), (some (23, false)), [], false⟩,
         ⟨(some 25), .bin .gtr (.t 24) (.k (.int .i64 600)), (some (23, false)), [], false⟩,
         ⟨(some 26), .pick (.t 23) (.k (.bool true)) (.t 25), none, [], false⟩,
         ⟨(some 27), .mv (.t 26), none, [], false⟩,
         ⟨(some 28), .mv (.t 2), (some (27, false)), [], false⟩,
         ⟨(some 29), .bin .lss (.t 28) (.k (.int .i64 0)), (some (27, false)), [], false⟩,
         ⟨(some 30), .pick (.t 27) (.k (.bool true)) (.t 29), none, [], false⟩,
         ⟨(some 31), .mv (.t 30), none, [], false⟩,
         ⟨(some 32), .mv (.t 2), (some (31, false)), [], false⟩,
         ⟨(some 33), .bin .gtr (.t 32) (.k (.int .i64 200000)), (some (31, false)), [], false⟩,
         ⟨(some 34), .pick (.t 31) (.k (.bool true)) (.t 33), none, [], false⟩,
         ⟨(some 35), .mv (.t 34), none, [], false⟩,
         ⟨(some 36), .mv (.t 3), (some (35, false)), [], false⟩,
         ⟨(some 37), .bin .lss (.t 36) (.k (.int .i64 0)), (some (35, false)), [], false⟩,
         ⟨(some 38), .pick (.t 35) (.k (.bool true)) (.t 37), none, [], false⟩,
         ⟨(some 39), .mv (.t 38), none, [], false⟩,
         ⟨(some 40), .mv (.t 3), (some (39, false)), [], false⟩,
         ⟨(some 41), .bin .gtr (.t 40) (.k (.int .i64 600)), (some (39, false)), [], false⟩,
         ⟨(some 42), .pick (.t 39) (.k (.bool true)) (.t 41), none, [], false⟩])
       (.cond (.t 42) (.seq (.reg [
           ⟨(some 8), .mv (.k (.int .i64 0)), none, [], false⟩,
           ⟨(some 9), .mv (.k (.int .i64 4)), none, [], false⟩])
         (.ret))
        (.skip)))
      (.seq (.seq (.reg [
          ⟨(some 43), .mv (.t 0), none, [], false⟩,
          ⟨(some 44), .lenv false (.t 43), none, [], false⟩,
          ⟨(some 45), .bin .eql (.t 44) (.k (.int .i64 0)), none, [], false⟩])
        (.cond (.t 45) (.seq (.reg [
            ⟨(some 8), .mv (.k (.int .i64 0)), none, [], false⟩,
            ⟨(some 9), .mv (.k (.int .i64 8)), none, [], false⟩])
          (.ret))
         (.skip)))
       (.seq (.reg [
          ⟨(some 46), .mv (.t 1), none, [], false⟩,
          ⟨(some 47), .mv (.t 0), none, [], false⟩,
          ⟨(some 48), .mv (.t 0), none, [], false⟩,
          ⟨(some 49), .lenv false (.t 48), none, [], false⟩,
          ⟨(some 50), .bin .sub (.t 49) (.k (.int .i64 1)), none, [], false⟩,
          ⟨(some 51), .iad 2 (.t 47) (.t 50), none, [], false⟩,
          ⟨(some 52), .fad 1 (.t 51), none, [], false⟩,
          ⟨(some 53), .ld1 (.t 52), none, [], false⟩,
          ⟨(some 54), .bin .geq (.t 46) (.t 53), none, [], false⟩,
          ⟨(some 11), .mv (.t 54), none, [], false⟩])
        (.seq (.seq (.reg [
            ⟨(some 55), .mv (.t 2), none, [], false⟩,
            ⟨(some 12), .mv (.t 55), none, [], false⟩])
          (.blk 0 (.loop (.seq (.seq (.reg [
                ⟨(some 56), .mv (.t 12), none, [], false⟩,
                ⟨(some 57), .mv (.t 2), none, [], false⟩,
                ⟨(some 58), .mv (.t 3), none, [], false⟩,
                ⟨(some 59), .bin .add (.t 57) (.t 58), none, [], false⟩,
                ⟨(some 60), .mnx false (.t 59) [(.k (.int .i64 200000))], none, [], false⟩,
                ⟨(some 61), .bin .leq (.t 56) (.t 60), none, [], false⟩])
              (.cond (.t 61) (.skip)
               (.exit 0)))
             (.seq (.blk 1 (.seq (.reg [
                  ⟨(some 65), .mv (.t 0), none, [], false⟩,
                  ⟨(some 66), .mv (.t 12), none, [], false⟩,
                  ⟨(some 67), .call (.k (.fn 20 [])) [(.t 65), (.t 66)], none, [], false⟩,
                  ⟨(some 64), .mv (.t 67), none, [], false⟩,
                  ⟨(some 68), .ext (.t 64) 0, none, [], false⟩,
                  ⟨(some 69), .ext (.t 64) 1, none, [], false⟩,
                  ⟨(some 70), .ext (.t 64) 2, none, [], false⟩,
                  ⟨(some 13), .mv (.t 68), none, [], false⟩,
                  ⟨(some 14), .mv (.t 69), none, [], false⟩,
                  ⟨(some 15), .mv (.t 70), none, [], false⟩])
                (.seq (.reg [
                   ⟨(some 71), .mv (.t 15), none, [], false⟩,
                   ⟨(some 72), .bin .eql (.t 71) (.k (.int .i64 0)), none, [], false⟩,
                   ⟨(some 73), .mv (.t 72), none, [], false⟩,
                   ⟨(some 74), .mv (.t 11), (some (73, true)), [], false⟩,
                   ⟨(some 75), .mv (.t 74), (some (73, true)), [], false⟩,
                   ⟨(some 76), .mv (.t 14), (some (75, true)), [], false⟩,
                   ⟨(some 77), .mv (.t 1), (some (75, true)), [], false⟩,
                   ⟨(some 78), .bin .mul (.k (.int .i64 100)) (.t 77), (some (75, true)), [], false⟩,
                   ⟨(some 79), .bin .geq (.t 76) (.t 78), (some (75, true)), [], false⟩,
                   ⟨(some 80), .pick (.t 75) (.t 79) (.k (.bool false)), (some (73, true)), [], false⟩,
                   ⟨(some 81), .mv (.t 80), (some (73, true)), [], false⟩,
                   ⟨(some 82), .mv (.t 11), (some (81, false)), [], false⟩,
                   ⟨(some 83), .un .not (.t 82), (some (81, false)), [], false⟩,
                   ⟨(some 84), .mv (.t 83), (some (81, false)), [], false⟩,
                   ⟨(some 85), .mv (.t 13), (some (84, true)), [], false⟩,
                   ⟨(some 86), .mv (.t 1), (some (84, true)), [], false⟩,
                   ⟨(some 87), .bin .mul (.k (.int .i64 100)) (.t 86), (some (84, true)), [], false⟩,
                   ⟨(some 88), .bin .add (.t 87) (.k (.int .i64 100)), (some (84, true)), [], false⟩,
                   ⟨(some 89), .bin .lss (.t 85) (.t 88), (some (84, true)), [], false⟩,
                   ⟨(some 90), .pick (.t 84) (.t 89) (.k (.bool false)), (some (81, false)), [], false⟩,
                   ⟨(some 91), .pick (.t 81) (.k (.bool true)) (.t 90), (some (73, true)), [], false⟩,
                   ⟨(some 92), .pick (.t 73) (.t 91) (.k (.bool false)), none, [], false⟩])
                 (.cond (.t 92) (.seq (.reg [
                     ⟨(some 93), .mv (.t 12), none, [], false⟩,
                     ⟨(some 8), .mv (.t 93), none, [], false⟩,
                     ⟨(some 9), .mv (.k (.int .i64 0)), none, [], false⟩])
                   (.ret))
                  (.skip)))))
              (.reg [
                ⟨(some 62), .mv (.t 12), none, [], false⟩,
                ⟨(some 63), .bin .add (.t 62) (.k (.int .i64 1)), none, [], false⟩,
                ⟨(some 12), .mv (.t 63), none, [], false⟩]))))))
         (.seq (.reg [
            ⟨(some 8), .mv (.k (.int .i64 0)), none, [], false⟩,
            ⟨(some 9), .mv (.k (.int .i64 8)), none, [], false⟩])
          (.ret)))))))
/-- skyway/skywaykeep2.ClimbThrough -/
def c4 : CF where
  np := 4
  nt := 112
  res := [.t 8]
  code := .seq (.reg [
      ⟨(some 8), .mv (.k (.bool false)), none, [], false⟩])
    (.seq (.reg [
       ⟨(some 20), .mk [.int .i64 0, .int .i64 0] [(0, 1, (.k (.int .i64 0))), (1, 1, (.k (.int .i64 10)))], none, [], false⟩,
       ⟨(some 21), .mk [.int .i64 0, .int .i64 0] [(0, 1, (.k (.int .i64 100))), (1, 1, (.k (.int .i64 20)))], none, [], false⟩,
       ⟨(some 22), .mks [.int .i64 0, .int .i64 0, .int .i64 0, .int .i64 0] 2 2 [(0, 2, (.t 20)), (2, 2, (.t 21))], none, [], false⟩,
       ⟨(some 9), .mv (.t 22), none, [], false⟩])
     (.seq (.seq (.reg [
         ⟨(some 24), .mv (.t 9), none, [], false⟩,
         ⟨(some 25), .call (.k (.fn 21 [])) [(.t 24), (.k (.int .i64 30)), (.k (.int .i64 100)), (.k (.int .i64 600))], none, [], false⟩,
         ⟨(some 23), .mv (.t 25), none, [], false⟩,
         ⟨(some 26), .ext (.t 23) 0, none, [], false⟩,
         ⟨(some 27), .ext (.t 23) 1, none, [], false⟩,
         ⟨(some 10), .mv (.t 26), none, [], false⟩,
         ⟨(some 11), .mv (.t 27), none, [], false⟩])
       (.seq (.reg [
          ⟨(some 28), .mv (.t 11), none, [], false⟩,
          ⟨(some 29), .bin .neq (.t 28) (.k (.int .i64 0)), none, [], false⟩,
          ⟨(some 30), .mv (.t 29), none, [], false⟩,
          ⟨(some 31), .mv (.t 10), (some (30, false)), [], false⟩,
          ⟨(some 32), .bin .leq (.t 31) (.k (.int .i64 100)), (some (30, false)), [], false⟩,
          ⟨(some 33), .pick (.t 30) (.k (.bool true)) (.t 32), none, [], false⟩])
        (.cond (.t 33) (.seq (.reg [
            ⟨(some 8), .mv (.k (.bool false)), none, [], false⟩])
          (.ret))
         (.skip))))
      (.seq (.reg [
         ⟨(some 34), .mv (.t 3), none, [], false⟩,
         ⟨(some 35), .call (.k (.fn 16 [])) [(.t 34), (.k (.int .i64 0)), (.k (.int .i64 100))], none, [], false⟩,
         ⟨(some 3), .mv (.t 35), none, [], false⟩])
       (.seq (.reg [
          ⟨(some 37), .mv (.t 0), none, [], false⟩,
          ⟨(some 38), .mv (.t 1), none, [], false⟩,
          ⟨(some 39), .mv (.t 2), none, [], false⟩,
          ⟨(some 40), .mv (.t 3), none, [], false⟩,
          ⟨(some 41), .call (.k (.fn 21 [])) [(.t 37), (.t 38), (.t 39), (.t 40)], none, [], false⟩,
          ⟨(some 36), .mv (.t 41), none, [], false⟩,
          ⟨(some 42), .ext (.t 36) 0, none, [], false⟩,
          ⟨(some 43), .ext (.t 36) 1, none, [], false⟩,
          ⟨(some 12), .mv (.t 42), none, [], false⟩,
          ⟨(some 13), .mv (.t 43), none, [], false⟩])
        (.seq (.seq (.reg [
            ⟨(some 44), .mv (.t 13), none, [], false⟩,
            ⟨(some 45), .bin .neq (.t 44) (.k (.int .i64 0)), none, [], false⟩,
            ⟨(some 46), .mv (.t 45), none, [], false⟩,
            ⟨(some 47), .mv (.t 13), (some (46, true)), [], false⟩,
            ⟨(some 48), .bin .neq (.t 47) (.k (.int .i64 8)), (some (46, true)), [], false⟩,
            ⟨(some 49), .pick (.t 46) (.t 48) (.k (.bool false)), none, [], false⟩,
            ⟨(some 50), .mv (.t 49), none, [], false⟩,
            ⟨(some 51), .mv (.t 0), (some (50, false)), [], false⟩,
            ⟨(some 52), .lenv false (.t 51), (some (50, false)), [], false⟩,
            ⟨(some 53), .bin .eql (.t 52) (.k (.int .i64 0)), (some (50, false)), [], false⟩,
            ⟨(some 54), .pick (.t 50) (.k (.bool true)) (.t 53), none, [], false⟩])
          (.cond (.t 54) (.seq (.reg [
              ⟨(some 55), .mv (.t 12), none, [], false⟩,
              ⟨(some 56), .bin .eql (.t 55) (.k (.int .i64 0)), none, [], false⟩,
              ⟨(some 8), .mv (.t 56), none, [], false⟩])
            (.ret))
           (.skip)))
         (.seq (.reg [
            ⟨(some 57), .mv (.t 2), none, [], false⟩,
            ⟨(some 58), .mv (.t 3), none, [], false⟩,
            ⟨(some 59), .bin .add (.t 57) (.t 58), none, [], false⟩,
            ⟨(some 14), .mv (.t 59), none, [], false⟩])
          (.seq (.seq (.reg [
              ⟨(some 60), .mv (.t 13), none, [], false⟩,
              ⟨(some 61), .bin .eql (.t 60) (.k (.int .i64 0)), none, [], false⟩])
            (.cond (.t 61) (.reg [
               ⟨(some 62), .mv (.t 12), none, [], false⟩,
               ⟨(some 63), .bin .sub (.t 62) (.k (.int .i64 1)), none, [], false⟩,
               ⟨(some 14), .mv (.t 63), none, [], false⟩])
             (.skip)))
           (.seq (.seq (.reg [
               ⟨(some 64), .mv (.t 2), none, [], false⟩,
               ⟨(some 15), .mv (.t 64), none, [], false⟩])
             (.blk 0 (.loop (.seq (.seq (.reg [
                   ⟨(some 65), .mv (.t 15), none, [], false⟩,
                   ⟨(some 66), .mv (.t 14), none, [], false⟩,
                   ⟨(some 67), .bin .leq (.t 65) (.t 66), none, [], false⟩,
                   ⟨(some 68), .mv (.t 67), none, [], false⟩,
                   ⟨(some 69), .mv (.t 15), (some (68, true)), [], false⟩,
                   ⟨(some 70), .bin .leq (.t 69) (.k (.int .i64 200000)), (some (68, true)), [], false⟩,
                   ⟨(some 71), .pick (.t 68) (.t 70) (.k (.bool false)), none, [], false⟩])
                 (.cond (.t 71) (.skip)
                  (.exit 0)))
                (.seq (.blk 1 (.seq (.reg [
                     ⟨(some 75), .mv (.t 0), none, [], false⟩,
                     ⟨(some 76), .mv (.t 15), none, [], false⟩,
                     ⟨(some 77), .call (.k (.fn 20 [])) [(.t 75), (.t 76)], none, [], false⟩,
                     ⟨(some 74), .mv (.t 77), none, [], false⟩,
                     ⟨(some 78), .ext (.t 74) 0, none, [], false⟩,
                     ⟨(some 79), .ext (.t 74) 1, none, [], false⟩,
                     ⟨(some 80), .ext (.t 74) 2, none, [], false⟩,
                     ⟨(some 16), .mv (.t 78), none, [], false⟩,
                     ⟨(some 17), .mv (.t 79), none, [], false⟩,
                     ⟨(some 18), .mv (.t 80), none, [], false⟩])
                   (.seq (.reg [
                      ⟨(some 81), .mv (.t 1), none, [], false⟩,
                      ⟨(some 82), .mv (.t 0), none, [], false⟩,
                      ⟨(some 83), .mv (.t 0), none, [], false⟩,
                      ⟨(some 84), .lenv false (.t 83), none, [], false⟩,
                      ⟨(some 85), .bin .sub (.t 84) (.k (.int .i64 1)), none, [], false⟩,
                      ⟨(some 86), .iad 2 (.t 82) (.t 85), none, [], false⟩,
                      ⟨(some 87), .fad 1 (.t 86), none, [], false⟩,
                      ⟨(some 88), .ld1 (.t 87), none, [], false⟩,
                      ⟨(some 89), .bin .geq (.t 81) (.t 88), none, [], false⟩,
                      ⟨(some 19), .mv (.t 89), none, [], false⟩])
                    (.seq (.reg [
                       ⟨(some 90), .mv (.t 18), none, [], false⟩,
                       ⟨(some 91), .bin .eql (.t 90) (.k (.int .i64 0)), none, [], false⟩,
                       ⟨(some 92), .mv (.t 91), none, [], false⟩,
                       ⟨(some 93), .mv (.t 19), (some (92, true)), [], false⟩,
                       ⟨(some 94), .mv (.t 93), (some (92, true)), [], false⟩,
                       ⟨(some 95), .mv (.t 17), (some (94, true)), [], false⟩,
                       ⟨(some 96), .mv (.t 1), (some (94, true)), [], false⟩,
                       ⟨(some 97), .bin .mul (.k (.int .i64 100)) (.t 96), (some (94, true)), [], false⟩,
                       ⟨(some 98), .bin .geq (.t 95) (.t 97), (some (94, true)), [], false⟩,
                       ⟨(some 99), .pick (.t 94) (.t 98) (.k (.bool false)), (some (92, true)), [], false⟩,
                       ⟨(some 100), .mv (.t 99), (some (92, true)), [], false⟩,
                       ⟨(some 101), .mv (.t 19), (some (100, false)), [], false⟩,
                       ⟨(some 102), .un .not (.t 101), (some (100, false)), [], false⟩,
                       ⟨(some 103), .mv (.t 102), (some (100, false)), [], false⟩,
                       ⟨(some 104), .mv (.t 16), (some (103, true)), [], false⟩,
                       ⟨(some 105), .mv (.t 1), (some (103, true)), [], false⟩,
                       ⟨(some 106), .bin .mul (.k (.int .i64 100)) (.t 105), (some (103, true)), [], false⟩,
                       ⟨(some 107), .bin .add (.t 106) (.k (.int .i64 100)), (some (103, true)), [], false⟩,
                       ⟨(some 108), .bin .lss (.t 104) (.t 107), (some (103, true)), [], false⟩,
                       ⟨(some 109), .pick (.t 103) (.t 108) (.k (.bool false)), (some (100, false)), [], false⟩,
                       ⟨(some 110), .pick (.t 100) (.k (.bool true)) (.t 109), (some (92, true)), [], false⟩,
                       ⟨(some 111), .pick (.t 92) (.t 110) (.k (.bool false)), none, [], false⟩])
                     (.cond (.t 111) (.seq (.reg [
                         ⟨(some 8), .mv (.k (.bool false)), none, [], false⟩])
                       (.ret))
                      (.skip))))))
                 (.reg [
                   ⟨(some 72), .mv (.t 15), none, [], false⟩,
                   ⟨(some 73), .bin .add (.t 72) (.k (.int .i64 1)), none, [], false⟩,
                   ⟨(some 15), .mv (.t 73), none, [], false⟩]))))))
            (.seq (.reg [
               ⟨(some 8), .mv (.k (.bool true)), none, [], false⟩])
             (.ret))))))))))
/-- skyway/begin.CheckRule -/
def c48 : CF where
  np := 2
  nt := 20
  res := [.t 4]
  code := .seq (.reg [
      ⟨(some 4), .mv (.k (.int .i64 0)), none, [], false⟩])
    (.seq (.seq (.reg [
        ⟨(some 5), .mv (.t 1), none, [], false⟩,
        ⟨(some 6), .bin .lss (.t 5) (.k (.int .i64 1)), none, [], false⟩,
        ⟨(some 7), .mv (.t 6), none, [], false⟩,
        ⟨(some 8), .mv (.t 1), (some (7, false)), [], false⟩,
        ⟨(some 9), .bin .gtr (.t 8) (.k (.int .i64 16)), (some (7, false)), [], false⟩,
        ⟨(some 10), .pick (.t 7) (.k (.bool true)) (.t 9), none, [], false⟩,
        ⟨(some 11), .mv (.t 10), none, [], false⟩,
        ⟨(some 12), .mv (.t 0), (some (11, false)), [], false⟩,
        ⟨(some 13), .bin .lss (.t 12) (.k (.int .i64 1)), (some (11, false)), [], false⟩,
        ⟨(some 14), .pick (.t 11) (.k (.bool true)) (.t 13), none, [], false⟩,
        ⟨(some 15), .mv (.t 14), none, [], false⟩,
        ⟨(some 16), .mv (.t 0), (some (15, false)), [], false⟩,
        ⟨(some 17), .mv (.t 1), (some (15, false)), [], false⟩,
        ⟨(some 18), .bin .gtr (.t 16) (.t 17), (some (15, false)), [], false⟩,
        ⟨(some 19), .pick (.t 15) (.k (.bool true)) (.t 18), none, [], false⟩])
      (.cond (.t 19) (.seq (.reg [
          ⟨(some 4), .mv (.k (.int .i64 4)), none, [], false⟩])
        (.ret))
       (.skip)))
     (.seq (.reg [
        ⟨(some 4), .mv (.k (.int .i64 0)), none, [], false⟩])
      (.ret)))
/-- skyway/begin.Check -/
def c70 : CF where
  np := 1
  nt := 24
  res := [.t 2]
  code := .seq (.reg [
      ⟨(some 1), .box (.t 0), none, [], false⟩,
      ⟨(some 2), .mv (.k (.int .i64 0)), none, [], false⟩])
    (.seq (.blk 0 (.seq (.reg [
         ⟨(some 4), .fad 1 (.t 1), none, [], false⟩,
         ⟨(some 5), .ld1 (.t 4), none, [], false⟩,
         ⟨(some 6), .bin .lss (.t 5) (.k (.int .i64 0)), none, [], false⟩,
         ⟨(some 7), .mv (.t 6), none, [], false⟩,
         ⟨(some 8), .fad 1 (.t 1), (some (7, false)), [], false⟩,
         ⟨(some 9), .ld1 (.t 8), (some (7, false)), [], false⟩,
         ⟨(some 10), .bin .gtr (.t 9) (.k (.int .i64 16)), (some (7, false)), [], false⟩,
         ⟨(some 11), .pick (.t 7) (.k (.bool true)) (.t 10), none, [], false⟩,
         ⟨(some 3), .mv (.t 11), none, [], false⟩])
       (.cond (.t 3) (.seq (.reg [
           ⟨(some 2), .mv (.k (.int .i64 4)), none, [], false⟩])
         (.ret))
        (.seq (.reg [
           ⟨(some 13), .fad 0 (.t 1), none, [], false⟩,
           ⟨(some 14), .ld1 (.t 13), none, [], false⟩,
           ⟨(some 15), .bin .lss (.t 14) (.k (.int .i64 0)), none, [], false⟩,
           ⟨(some 16), .mv (.t 15), none, [], false⟩,
           ⟨(some 17), .fad 0 (.t 1), (some (16, false)), [], false⟩,
           ⟨(some 18), .ld1 (.t 17), (some (16, false)), [], false⟩,
           ⟨(some 19), .fad 1 (.t 1), (some (16, false)), [], false⟩,
           ⟨(some 20), .ld1 (.t 19), (some (16, false)), [], false⟩,
           ⟨(some 21), .bin .shl (.k (.int .i64 1)) (.t 20), (some (16, false)), [], false⟩,
           ⟨(some 22), .bin .geq (.t 18) (.t 21), (some (16, false)), [], false⟩,
           ⟨(some 23), .pick (.t 16) (.k (.bool true)) (.t 22), none, [], false⟩,
           ⟨(some 12), .mv (.t 23), none, [], false⟩])
         (.cond (.t 12) (.seq (.reg [
             ⟨(some 2), .mv (.k (.int .i64 3)), none, [], false⟩])
           (.ret))
          (.skip))))))
     (.seq (.reg [
        ⟨(some 2), .mv (.k (.int .i64 0)), none, [], false⟩])
      (.ret)))
/-- math/bits.OnesCount32 -/
def c80 : CF where
  np := 1
  nt := 21
  res := [.t 2]
  code := .seq (.reg [
      ⟨(some 2), .mv (.k (.int .i64 0)), none, [], false⟩])
    (.seq (.reg [
       ⟨(some 3), .mv (.t 0), none, [], false⟩,
       ⟨(some 4), .bin .shr (.t 3) (.k (.int .u64 24)), none, [], false⟩,
       ⟨(some 5), .ixs (.k (.str ⟨#[0, 1, 1, 2, 1, 2, 2, 3, 1, 2, 2, 3, 2, 3, 3, 4, 1, 2, 2, 3, 2, 3, 3, 4, 2, 3, 3, 4, 3, 4, 4, 5, 1, 2, 2, 3, 2, 3, 3, 4, 2, 3, 3, 4, 3, 4, 4, 5, 2, 3, 3, 4, 3, 4, 4, 5, 3, 4, 4, 5, 4, 5, 5, 6, 1, 2, 2, 3, 2, 3, 3, 4, 2, 3, 3, 4, 3, 4, 4, 5, 2, 3, 3, 4, 3, 4, 4, 5, 3, 4, 4, 5, 4, 5, 5, 6, 2, 3, 3, 4, 3, 4, 4, 5, 3, 4, 4, 5, 4, 5, 5, 6, 3, 4, 4, 5, 4, 5, 5, 6, 4, 5, 5, 6, 5, 6, 6, 7, 1, 2, 2, 3, 2, 3, 3, 4, 2, 3, 3, 4, 3, 4, 4, 5, 2, 3, 3, 4, 3, 4, 4, 5, 3, 4, 4, 5, 4, 5, 5, 6, 2, 3, 3, 4, 3, 4, 4, 5, 3, 4, 4, 5, 4, 5, 5, 6, 3, 4, 4, 5, 4, 5, 5, 6, 4, 5, 5, 6, 5, 6, 6, 7, 2, 3, 3, 4, 3, 4, 4, 5, 3, 4, 4, 5, 4, 5, 5, 6, 3, 4, 4, 5, 4, 5, 5, 6, 4, 5, 5, 6, 5, 6, 6, 7, 3, 4, 4, 5, 4, 5, 5, 6, 4, 5, 5, 6, 5, 6, 6, 7, 4, 5, 5, 6, 5, 6, 6, 7, 5, 6, 6, 7, 6, 7, 7, 8]⟩)) (.t 4), none, [], false⟩,
       ⟨(some 6), .mv (.t 0), none, [], false⟩,
       ⟨(some 7), .bin .shr (.t 6) (.k (.int .u64 16)), none, [], false⟩,
       ⟨(some 8), .bin .and (.t 7) (.k (.int .u32 255)), none, [], false⟩,
       ⟨(some 9), .ixs (.k (.str ⟨#[0, 1, 1, 2, 1, 2, 2, 3, 1, 2, 2, 3, 2, 3, 3, 4, 1, 2, 2, 3, 2, 3, 3, 4, 2, 3, 3, 4, 3, 4, 4, 5, 1, 2, 2, 3, 2, 3, 3, 4, 2, 3, 3, 4, 3, 4, 4, 5, 2, 3, 3, 4, 3, 4, 4, 5, 3, 4, 4, 5, 4, 5, 5, 6, 1, 2, 2, 3, 2, 3, 3, 4, 2, 3, 3, 4, 3, 4, 4, 5, 2, 3, 3, 4, 3, 4, 4, 5, 3, 4, 4, 5, 4, 5, 5, 6, 2, 3, 3, 4, 3, 4, 4, 5, 3, 4, 4, 5, 4, 5, 5, 6, 3, 4, 4, 5, 4, 5, 5, 6, 4, 5, 5, 6, 5, 6, 6, 7, 1, 2, 2, 3, 2, 3, 3, 4, 2, 3, 3, 4, 3, 4, 4, 5, 2, 3, 3, 4, 3, 4, 4, 5, 3, 4, 4, 5, 4, 5, 5, 6, 2, 3, 3, 4, 3, 4, 4, 5, 3, 4, 4, 5, 4, 5, 5, 6, 3, 4, 4, 5, 4, 5, 5, 6, 4, 5, 5, 6, 5, 6, 6, 7, 2, 3, 3, 4, 3, 4, 4, 5, 3, 4, 4, 5, 4, 5, 5, 6, 3, 4, 4, 5, 4, 5, 5, 6, 4, 5, 5, 6, 5, 6, 6, 7, 3, 4, 4, 5, 4, 5, 5, 6, 4, 5, 5, 6, 5, 6, 6, 7, 4, 5, 5, 6, 5, 6, 6, 7, 5, 6, 6, 7, 6, 7, 7, 8]⟩)) (.t 8), none, [], false⟩,
       ⟨(some 10), .bin .add (.t 5) (.t 9), none, [], false⟩,
       ⟨(some 11), .mv (.t 0), none, [], false⟩,
       ⟨(some 12), .bin .shr (.t 11) (.k (.int .u64 8)), none, [], false⟩,
       ⟨(some 13), .bin .and (.t 12) (.k (.int .u32 255)), none, [], false⟩,
       ⟨(some 14), .ixs (.k (.str ⟨#[0, 1, 1, 2, 1, 2, 2, 3, 1, 2, 2, 3, 2, 3, 3, 4, 1, 2, 2, 3, 2, 3, 3, 4, 2, 3, 3, 4, 3, 4, 4, 5, 1, 2, 2, 3, 2, 3, 3, 4, 2, 3, 3, 4, 3, 4, 4, 5, 2, 3, 3, 4, 3, 4, 4, 5, 3, 4, 4, 5, 4, 5, 5, 6, 1, 2, 2, 3, 2, 3, 3, 4, 2, 3, 3, 4, 3, 4, 4, 5, 2, 3, 3, 4, 3, 4, 4, 5, 3, 4, 4, 5, 4, 5, 5, 6, 2, 3, 3, 4, 3, 4, 4, 5, 3, 4, 4, 5, 4, 5, 5, 6, 3, 4, 4, 5, 4, 5, 5, 6, 4, 5, 5, 6, 5, 6, 6, 7, 1, 2, 2, 3, 2, 3, 3, 4, 2, 3, 3, 4, 3, 4, 4, 5, 2, 3, 3, 4, 3, 4, 4, 5, 3, 4, 4, 5, 4, 5, 5, 6, 2, 3, 3, 4, 3, 4, 4, 5, 3, 4, 4, 5, 4, 5, 5, 6, 3, 4, 4, 5, 4, 5, 5, 6, 4, 5, 5, 6, 5, 6, 6, 7, 2, 3, 3, 4, 3, 4, 4, 5, 3, 4, 4, 5, 4, 5, 5, 6, 3, 4, 4, 5, 4, 5, 5, 6, 4, 5, 5, 6, 5, 6, 6, 7, 3, 4, 4, 5, 4, 5, 5, 6, 4, 5, 5, 6, 5, 6, 6, 7, 4, 5, 5, 6, 5, 6, 6, 7, 5, 6, 6, 7, 6, 7, 7, 8]⟩)) (.t 13), none, [], false⟩,
       ⟨(some 15), .bin .add (.t 10) (.t 14), none, [], false⟩,
       ⟨(some 16), .mv (.t 0), none, [], false⟩,
       ⟨(some 17), .bin .and (.t 16) (.k (.int .u32 255)), none, [], false⟩,
       ⟨(some 18), .ixs (.k (.str ⟨#[0, 1, 1, 2, 1, 2, 2, 3, 1, 2, 2, 3, 2, 3, 3, 4, 1, 2, 2, 3, 2, 3, 3, 4, 2, 3, 3, 4, 3, 4, 4, 5, 1, 2, 2, 3, 2, 3, 3, 4, 2, 3, 3, 4, 3, 4, 4, 5, 2, 3, 3, 4, 3, 4, 4, 5, 3, 4, 4, 5, 4, 5, 5, 6, 1, 2, 2, 3, 2, 3, 3, 4, 2, 3, 3, 4, 3, 4, 4, 5, 2, 3, 3, 4, 3, 4, 4, 5, 3, 4, 4, 5, 4, 5, 5, 6, 2, 3, 3, 4, 3, 4, 4, 5, 3, 4, 4, 5, 4, 5, 5, 6, 3, 4, 4, 5, 4, 5, 5, 6, 4, 5, 5, 6, 5, 6, 6, 7, 1, 2, 2, 3, 2, 3, 3, 4, 2, 3, 3, 4, 3, 4, 4, 5, 2, 3, 3, 4, 3, 4, 4, 5, 3, 4, 4, 5, 4, 5, 5, 6, 2, 3, 3, 4, 3, 4, 4, 5, 3, 4, 4, 5, 4, 5, 5, 6, 3, 4, 4, 5, 4, 5, 5, 6, 4, 5, 5, 6, 5, 6, 6, 7, 2, 3, 3, 4, 3, 4, 4, 5, 3, 4, 4, 5, 4, 5, 5, 6, 3, 4, 4, 5, 4, 5, 5, 6, 4, 5, 5, 6, 5, 6, 6, 7, 3, 4, 4, 5, 4, 5, 5, 6, 4, 5, 5, 6, 5, 6, 6, 7, 4, 5, 5, 6, 5, 6, 6, 7, 5, 6, 6, 7, 6, 7, 7, 8]⟩)) (.t 17), none, [], false⟩,
       ⟨(some 19), .bin .add (.t 15) (.t 18), none, [], false⟩,
       ⟨(some 20), .cvi .i64 (.t 19), none, [], false⟩,
       ⟨(some 2), .mv (.t 20), none, [], false⟩])
     (.ret))
/-- math/bits.OnesCount64 -/
def c81 : CF where
  np := 1
  nt := 35
  res := [.t 2]
  code := .seq (.reg [
      ⟨(some 2), .mv (.k (.int .i64 0)), none, [], false⟩])
    (.seq (.reg [
       ⟨(some 3), .mv (.t 0), none, [], false⟩,
       ⟨(some 4), .bin .shr (.t 3) (.k (.int .u64 1)), none, [], false⟩,
       ⟨(some 5), .bin .and (.t 4) (.k (.int .u64 6148914691236517205)), none, [], false⟩,
       ⟨(some 6), .mv (.t 0), none, [], false⟩,
       ⟨(some 7), .bin .and (.t 6) (.k (.int .u64 6148914691236517205)), none, [], false⟩,
       ⟨(some 8), .bin .add (.t 5) (.t 7), none, [], false⟩,
       ⟨(some 0), .mv (.t 8), none, [], false⟩])
     (.seq (.reg [
        ⟨(some 9), .mv (.t 0), none, [], false⟩,
        ⟨(some 10), .bin .shr (.t 9) (.k (.int .u64 2)), none, [], false⟩,
        ⟨(some 11), .bin .and (.t 10) (.k (.int .u64 3689348814741910323)), none, [], false⟩,
        ⟨(some 12), .mv (.t 0), none, [], false⟩,
        ⟨(some 13), .bin .and (.t 12) (.k (.int .u64 3689348814741910323)), none, [], false⟩,
        ⟨(some 14), .bin .add (.t 11) (.t 13), none, [], false⟩,
        ⟨(some 0), .mv (.t 14), none, [], false⟩])
      (.seq (.reg [
         ⟨(some 15), .mv (.t 0), none, [], false⟩,
         ⟨(some 16), .bin .shr (.t 15) (.k (.int .u64 4)), none, [], false⟩,
         ⟨(some 17), .mv (.t 0), none, [], false⟩,
         ⟨(some 18), .bin .add (.t 16) (.t 17), none, [], false⟩,
         ⟨(some 19), .bin .and (.t 18) (.k (.int .u64 1085102592571150095)), none, [], false⟩,
         ⟨(some 0), .mv (.t 19), none, [], false⟩])
       (.seq (.reg [
          ⟨(some 20), .mv (.t 0), none, [], false⟩,
          ⟨(some 21), .mv (.t 0), none, [], false⟩,
          ⟨(some 22), .bin .shr (.t 21) (.k (.int .u64 8)), none, [], false⟩,
          ⟨(some 23), .bin .add (.t 20) (.t 22), none, [], false⟩,
          ⟨(some 0), .mv (.t 23), none, [], false⟩])
        (.seq (.reg [
           ⟨(some 24), .mv (.t 0), none, [], false⟩,
           ⟨(some 25), .mv (.t 0), none, [], false⟩,
           ⟨(some 26), .bin .shr (.t 25) (.k (.int .u64 16)), none, [], false⟩,
           ⟨(some 27), .bin .add (.t 24) (.t 26), none, [], false⟩,
           ⟨(some 0), .mv (.t 27), none, [], false⟩])
         (.seq (.reg [
            ⟨(some 28), .mv (.t 0), none, [], false⟩,
            ⟨(some 29), .mv (.t 0), none, [], false⟩,
            ⟨(some 30), .bin .shr (.t 29) (.k (.int .u64 32)), none, [], false⟩,
            ⟨(some 31), .bin .add (.t 28) (.t 30), none, [], false⟩,
            ⟨(some 0), .mv (.t 31), none, [], false⟩])
          (.seq (.reg [
             ⟨(some 32), .mv (.t 0), none, [], false⟩,
             ⟨(some 33), .cvi .i64 (.t 32), none, [], false⟩,
             ⟨(some 34), .bin .and (.t 33) (.k (.int .i64 127)), none, [], false⟩,
             ⟨(some 2), .mv (.t 34), none, [], false⟩])
           (.ret))))))))
/-- math/bits.OnesCount -/
def c71 : CF where
  np := 1
  nt := 8
  res := [.t 2]
  code := .seq (.reg [
      ⟨(some 2), .mv (.k (.int .i64 0)), none, [], false⟩])
    (.seq (.cond (.k (.bool false)) (.seq (.reg [
         ⟨(some 3), .mv (.t 0), none, [], false⟩,
         ⟨(some 4), .cvi .u32 (.t 3), none, [], false⟩,
         ⟨(some 5), .call (.k (.fn 80 [])) [(.t 4)], none, [], false⟩,
         ⟨(some 2), .mv (.t 5), none, [], false⟩])
       (.ret))
      (.skip))
     (.seq (.reg [
        ⟨(some 6), .mv (.t 0), none, [], false⟩,
        ⟨(some 7), .call (.k (.fn 81 [])) [(.t 6)], none, [], false⟩,
        ⟨(some 2), .mv (.t 7), none, [], false⟩])
      (.ret)))
/-- skyway/begin.soon -/
def c72 : CF where
  np := 3
  nt := 31
  res := [.t 6]
  code := .seq (.reg [
      ⟨(some 6), .mv (.k (.bool false)), none, [], false⟩])
    (.seq (.seq (.reg [
        ⟨(some 7), .mv (.k (.int .i64 1)), none, [], false⟩])
      (.blk 0 (.loop (.seq (.seq (.reg [
            ⟨(some 9), .mv (.t 7), none, [], false⟩,
            ⟨(some 10), .mv (.t 2), none, [], false⟩,
            ⟨(some 11), .bin .lss (.t 9) (.t 10), none, [], false⟩])
          (.cond (.t 11) (.skip)
           (.exit 0)))
         (.seq (.blk 1 (.seq (.reg [
              ⟨(some 14), .mv (.t 0), none, [], false⟩,
              ⟨(some 15), .mv (.t 2), none, [], false⟩,
              ⟨(some 16), .mv (.t 7), none, [], false⟩,
              ⟨(some 17), .bin .sub (.t 15) (.t 16), none, [], false⟩,
              ⟨(some 18), .bin .shl (.k (.int .u64 1)) (.t 17), none, [], false⟩,
              ⟨(some 19), .bin .sub (.t 18) (.k (.int .u64 1)), none, [], false⟩,
              ⟨(some 20), .bin .and (.t 14) (.t 19), none, [], false⟩,
              ⟨(some 21), .call (.k (.fn 71 [])) [(.t 20)], none, [], false⟩,
              ⟨(some 8), .mv (.t 21), none, [], false⟩])
            (.seq (.reg [
               ⟨(some 22), .mv (.t 8), none, [], false⟩,
               ⟨(some 23), .bin .gtr (.t 22) (.k (.int .i64 0)), none, [], false⟩,
               ⟨(some 24), .mv (.t 23), none, [], false⟩,
               ⟨(some 25), .mv (.t 8), (some (24, true)), [], false⟩,
               ⟨(some 26), .mv (.t 7), (some (24, true)), [], false⟩,
               ⟨(some 27), .bin .add (.t 25) (.t 26), (some (24, true)), [], false⟩,
               ⟨(some 28), .mv (.t 1), (some (24, true)), [], false⟩,
               ⟨(some 29), .bin .geq (.t 27) (.t 28), (some (24, true)), [], false⟩,
               ⟨(some 30), .pick (.t 24) (.t 29) (.k (.bool false)), none, [], false⟩])
             (.cond (.t 30) (.seq (.reg [
                 ⟨(some 6), .mv (.k (.bool true)), none, [], false⟩])
               (.ret))
              (.skip)))))
          (.reg [
            ⟨(some 12), .mv (.t 7), none, [], false⟩,
            ⟨(some 13), .bin .add (.t 12) (.k (.int .i64 1)), none, [], false⟩,
            ⟨(some 7), .mv (.t 13), none, [], false⟩]))))))
     (.seq (.reg [
        ⟨(some 6), .mv (.k (.bool false)), none, [], false⟩])
      (.ret)))
/-- skyway/begin.Step -/
def c49 : CF where
  np := 4
  nt := 71
  res := [.cn 2 8, .t 9, .t 10]
  code := .seq (.reg [
      ⟨(some 4), .box (.t 0), none, [], false⟩,
      ⟨(some 8), .new [.int .i64 0, .int .i64 0], none, [], false⟩,
      ⟨(some 9), .mv (.k (.int .i64 0)), none, [], false⟩,
      ⟨(some 10), .mv (.k (.int .i64 0)), none, [], false⟩])
    (.seq (.seq (.reg [
        ⟨(some 15), .ldn 2 (.t 4), none, [], false⟩,
        ⟨(some 16), .call (.k (.fn 70 [])) [(.t 15)], none, [], false⟩,
        ⟨(some 11), .mv (.t 16), none, [], false⟩])
      (.seq (.reg [
         ⟨(some 17), .mv (.t 11), none, [], false⟩,
         ⟨(some 18), .bin .neq (.t 17) (.k (.int .i64 0)), none, [], false⟩])
       (.cond (.t 18) (.seq (.reg [
           ⟨(some 19), .mk [.int .i64 0, .int .i64 0] [], none, [], false⟩,
           ⟨(some 20), .mv (.t 11), none, [], false⟩,
           ⟨none, .st 2 (.t 8) (.t 19), none, [], false⟩,
           ⟨(some 9), .mv (.k (.int .i64 0)), none, [], false⟩,
           ⟨(some 10), .mv (.t 20), none, [], false⟩])
         (.ret))
        (.skip))))
     (.seq (.seq (.reg [
         ⟨(some 21), .mv (.t 2), none, [], false⟩,
         ⟨(some 22), .mv (.t 3), none, [], false⟩,
         ⟨(some 23), .call (.k (.fn 48 [])) [(.t 21), (.t 22)], none, [], false⟩,
         ⟨(some 12), .mv (.t 23), none, [], false⟩])
       (.seq (.reg [
          ⟨(some 24), .mv (.t 12), none, [], false⟩,
          ⟨(some 25), .bin .neq (.t 24) (.k (.int .i64 0)), none, [], false⟩])
        (.cond (.t 25) (.seq (.reg [
            ⟨(some 26), .mk [.int .i64 0, .int .i64 0] [], none, [], false⟩,
            ⟨(some 27), .mv (.t 12), none, [], false⟩,
            ⟨none, .st 2 (.t 8) (.t 26), none, [], false⟩,
            ⟨(some 9), .mv (.k (.int .i64 0)), none, [], false⟩,
            ⟨(some 10), .mv (.t 27), none, [], false⟩])
          (.ret))
         (.skip))))
      (.seq (.reg [
         ⟨(some 28), .fad 0 (.t 4), none, [], false⟩,
         ⟨(some 29), .ld1 (.t 28), none, [], false⟩,
         ⟨(some 30), .bin .shl (.t 29) (.k (.int .u64 1)), none, [], false⟩,
         ⟨(some 31), .bin .and (.t 30) (.k (.int .i64 65535)), none, [], false⟩,
         ⟨(some 32), .fad 0 (.t 4), none, [], false⟩,
         ⟨none, .st 1 (.t 32) (.t 31), none, [], false⟩])
       (.seq (.seq (.reg [
           ⟨(some 33), .mv (.t 1), none, [], false⟩])
         (.cond (.t 33) (.reg [
            ⟨(some 34), .fad 0 (.t 4), none, [], false⟩,
            ⟨(some 35), .ld1 (.t 34), none, [], false⟩,
            ⟨(some 36), .bin .or (.t 35) (.k (.int .i64 1)), none, [], false⟩,
            ⟨(some 37), .fad 0 (.t 4), none, [], false⟩,
            ⟨none, .st 1 (.t 37) (.t 36), none, [], false⟩])
          (.skip)))
        (.seq (.reg [
           ⟨(some 38), .fad 1 (.t 4), none, [], false⟩,
           ⟨(some 39), .ld1 (.t 38), none, [], false⟩,
           ⟨(some 40), .bin .add (.t 39) (.k (.int .i64 1)), none, [], false⟩,
           ⟨(some 41), .mnx false (.t 40) [(.k (.int .i64 16))], none, [], false⟩,
           ⟨(some 42), .fad 1 (.t 4), none, [], false⟩,
           ⟨none, .st 1 (.t 42) (.t 41), none, [], false⟩])
         (.seq (.reg [
            ⟨(some 43), .fad 0 (.t 4), none, [], false⟩,
            ⟨(some 44), .ld1 (.t 43), none, [], false⟩,
            ⟨(some 45), .mv (.t 3), none, [], false⟩,
            ⟨(some 46), .bin .shl (.k (.int .i64 1)) (.t 45), none, [], false⟩,
            ⟨(some 47), .bin .sub (.t 46) (.k (.int .i64 1)), none, [], false⟩,
            ⟨(some 48), .bin .and (.t 44) (.t 47), none, [], false⟩,
            ⟨(some 49), .cvi .u64 (.t 48), none, [], false⟩,
            ⟨(some 13), .mv (.t 49), none, [], false⟩])
          (.seq (.reg [
             ⟨(some 50), .mv (.t 13), none, [], false⟩,
             ⟨(some 51), .call (.k (.fn 71 [])) [(.t 50)], none, [], false⟩,
             ⟨(some 14), .mv (.t 51), none, [], false⟩])
           (.seq (.blk 0 (.seq (.reg [
                ⟨(some 53), .mv (.t 14), none, [], false⟩,
                ⟨(some 54), .mv (.t 2), none, [], false⟩,
                ⟨(some 55), .bin .geq (.t 53) (.t 54), none, [], false⟩,
                ⟨(some 52), .mv (.t 55), none, [], false⟩])
              (.cond (.t 52) (.seq (.reg [
                  ⟨(some 56), .ldn 2 (.t 4), none, [], false⟩,
                  ⟨none, .st 2 (.t 8) (.t 56), none, [], false⟩,
                  ⟨(some 9), .mv (.k (.int .i64 1)), none, [], false⟩,
                  ⟨(some 10), .mv (.k (.int .i64 0)), none, [], false⟩])
                (.ret))
               (.seq (.reg [
                  ⟨(some 58), .fad 1 (.t 4), none, [], false⟩,
                  ⟨(some 59), .ld1 (.t 58), none, [], false⟩,
                  ⟨(some 60), .mv (.t 3), none, [], false⟩,
                  ⟨(some 61), .bin .geq (.t 59) (.t 60), none, [], false⟩,
                  ⟨(some 62), .mv (.t 61), none, [], false⟩,
                  ⟨(some 63), .mv (.t 13), (some (62, true)), [], false⟩,
                  ⟨(some 64), .mv (.t 2), (some (62, true)), [], false⟩,
                  ⟨(some 65), .mv (.t 3), (some (62, true)), [], false⟩,
                  ⟨(some 66), .call (.k (.fn 72 [])) [(.t 63), (.t 64), (.t 65)], (some (62, true)), [], false⟩,
                  ⟨(some 67), .un .not (.t 66), (some (62, true)), [], false⟩,
                  ⟨(some 68), .pick (.t 62) (.t 67) (.k (.bool false)), none, [], false⟩,
                  ⟨(some 57), .mv (.t 68), none, [], false⟩])
                (.cond (.t 57) (.seq (.reg [
                    ⟨(some 69), .ldn 2 (.t 4), none, [], false⟩,
                    ⟨none, .st 2 (.t 8) (.t 69), none, [], false⟩,
                    ⟨(some 9), .mv (.k (.int .i64 2)), none, [], false⟩,
                    ⟨(some 10), .mv (.k (.int .i64 0)), none, [], false⟩])
                  (.ret))
                 (.skip))))))
            (.seq (.reg [
               ⟨(some 70), .ldn 2 (.t 4), none, [], false⟩,
               ⟨none, .st 2 (.t 8) (.t 70), none, [], false⟩,
               ⟨(some 9), .mv (.k (.int .i64 0)), none, [], false⟩,
               ⟨(some 10), .mv (.k (.int .i64 0)), none, [], false⟩])
             (.ret))))))))))
/-- skyway/begin.Run -/
def c22 : CF where
  np := 3
  nt := 48
  res := [.t 6, .t 7, .t 8]
  code := .seq (.reg [
      ⟨(some 6), .mv (.k (.int .i64 0)), none, [], false⟩,
      ⟨(some 7), .mv (.k (.int .i64 0)), none, [], false⟩,
      ⟨(some 8), .mv (.k (.int .i64 0)), none, [], false⟩])
    (.seq (.seq (.reg [
        ⟨(some 16), .mv (.t 0), none, [], false⟩,
        ⟨(some 17), .lenv false (.t 16), none, [], false⟩,
        ⟨(some 18), .bin .gtr (.t 17) (.k (.int .i64 256)), none, [], false⟩])
      (.cond (.t 18) (.seq (.reg [
          ⟨(some 6), .mv (.k (.int .i64 0)), none, [], false⟩,
          ⟨(some 7), .mv (.k (.int .i64 0)), none, [], false⟩,
          ⟨(some 8), .mv (.k (.int .i64 2)), none, [], false⟩])
        (.ret))
       (.skip)))
     (.seq (.seq (.reg [
         ⟨(some 19), .mv (.t 1), none, [], false⟩,
         ⟨(some 20), .mv (.t 2), none, [], false⟩,
         ⟨(some 21), .call (.k (.fn 48 [])) [(.t 19), (.t 20)], none, [], false⟩,
         ⟨(some 9), .mv (.t 21), none, [], false⟩])
       (.seq (.reg [
          ⟨(some 22), .mv (.t 9), none, [], false⟩,
          ⟨(some 23), .bin .neq (.t 22) (.k (.int .i64 0)), none, [], false⟩])
        (.cond (.t 23) (.seq (.reg [
            ⟨(some 24), .mv (.t 9), none, [], false⟩,
            ⟨(some 6), .mv (.k (.int .i64 0)), none, [], false⟩,
            ⟨(some 7), .mv (.k (.int .i64 0)), none, [], false⟩,
            ⟨(some 8), .mv (.t 24), none, [], false⟩])
          (.ret))
         (.skip))))
      (.seq (.reg [
         ⟨(some 10), .new [.int .i64 0, .int .i64 0], none, [], false⟩])
       (.seq (.seq (.reg [
           ⟨(some 25), .mv (.t 0), none, [], false⟩,
           ⟨(some 26), .lenv false (.t 25), none, [], false⟩,
           ⟨(some 27), .mv (.k (.int .i64 0)), none, [], false⟩])
         (.blk 0 (.loop (.seq (.reg [
              ⟨(some 28), .bin .lss (.t 27) (.t 26), none, [], false⟩])
            (.seq (.cond (.t 28) (.skip)
              (.exit 0))
             (.seq (.blk 1 (.seq (.reg [
                  ⟨(some 29), .mv (.t 27), none, [], false⟩,
                  ⟨(some 30), .iad 1 (.t 25) (.t 27), none, [], false⟩,
                  ⟨(some 31), .ld1 (.t 30), none, [], false⟩,
                  ⟨(some 11), .mv (.t 29), none, [], false⟩,
                  ⟨(some 12), .mv (.t 31), none, [], false⟩])
                (.seq (.reg [
                   ⟨(some 33), .ldn 2 (.t 10), none, [], false⟩,
                   ⟨(some 34), .mv (.t 12), none, [], false⟩,
                   ⟨(some 35), .mv (.t 1), none, [], false⟩,
                   ⟨(some 36), .mv (.t 2), none, [], false⟩,
                   ⟨(some 37), .call (.k (.fn 49 [])) [(.t 33), (.t 34), (.t 35), (.t 36)], none, [], false⟩,
                   ⟨(some 32), .mv (.t 37), none, [], false⟩,
                   ⟨(some 38), .ext (.t 32) 0, none, [], false⟩,
                   ⟨(some 39), .ext (.t 32) 1, none, [], false⟩,
                   ⟨(some 40), .ext (.t 32) 2, none, [], false⟩,
                   ⟨(some 13), .new [.int .i64 0, .int .i64 0], none, [], false⟩,
                   ⟨none, .st 2 (.t 13) (.t 38), none, [], false⟩,
                   ⟨(some 14), .mv (.t 39), none, [], false⟩,
                   ⟨(some 15), .mv (.t 40), none, [], false⟩])
                 (.seq (.seq (.reg [
                     ⟨(some 41), .mv (.t 14), none, [], false⟩,
                     ⟨(some 42), .bin .neq (.t 41) (.k (.int .i64 0)), none, [], false⟩])
                   (.cond (.t 42) (.seq (.reg [
                       ⟨(some 43), .mv (.t 11), none, [], false⟩,
                       ⟨(some 44), .bin .add (.t 43) (.k (.int .i64 1)), none, [], false⟩,
                       ⟨(some 45), .mv (.t 14), none, [], false⟩,
                       ⟨(some 6), .mv (.t 44), none, [], false⟩,
                       ⟨(some 7), .mv (.t 45), none, [], false⟩,
                       ⟨(some 8), .mv (.k (.int .i64 0)), none, [], false⟩])
                     (.ret))
                    (.skip)))
                  (.reg [
                    ⟨(some 46), .ldn 2 (.t 13), none, [], false⟩,
                    ⟨none, .st 2 (.t 10) (.t 46), none, [], false⟩])))))
              (.reg [
                ⟨(some 47), .bin .add (.t 27) (.k (.int .i64 1)), none, [], false⟩,
                ⟨(some 27), .mv (.t 47), none, [], false⟩])))))))
        (.seq (.reg [
           ⟨(some 6), .mv (.k (.int .i64 0)), none, [], false⟩,
           ⟨(some 7), .mv (.k (.int .i64 0)), none, [], false⟩,
           ⟨(some 8), .mv (.k (.int .i64 0)), none, [], false⟩])
         (.ret))))))
/-- slices.Clone[[]bool,bool] -/
def c23 : CF where
  np := 1
  nt := 8
  res := [.t 2]
  code := .seq (.reg [
      ⟨(some 2), .mv (.k (.sl true 0 0 0 0 0)), none, [], false⟩])
    (.seq (.seq (.reg [
        ⟨(some 3), .mv (.t 0), none, [], false⟩,
        ⟨(some 4), .eqn false 0 (.t 3), none, [], false⟩])
      (.cond (.t 4) (.seq (.reg [
          ⟨(some 2), .mv (.k (.sl true 0 0 0 0 0)), none, [], false⟩])
        (.ret))
       (.skip)))
     (.seq (.reg [
        ⟨(some 5), .mks [] 1 0 [], none, [], false⟩,
        ⟨(some 6), .mv (.t 0), none, [], false⟩,
        ⟨(some 7), .app 1 1 (.t 5) (.t 6), none, [], false⟩,
        ⟨(some 2), .mv (.t 7), none, [], false⟩])
      (.ret)))
/-- skyway/skywaykeep2.BeginSooner -/
def c5 : CF where
  np := 4
  nt := 100
  res := [.t 8]
  code := .seq (.reg [
      ⟨(some 8), .mv (.k (.bool false)), none, [], false⟩])
    (.seq (.seq (.reg [
        ⟨(some 21), .mks [.bool false, .bool false] 1 2 [(0, 1, (.k (.bool true))), (1, 1, (.k (.bool true)))], none, [], false⟩,
        ⟨(some 22), .call (.k (.fn 22 [])) [(.t 21), (.k (.int .i64 2)), (.k (.int .i64 2))], none, [], false⟩,
        ⟨(some 20), .mv (.t 22), none, [], false⟩,
        ⟨(some 23), .ext (.t 20) 0, none, [], false⟩,
        ⟨(some 24), .ext (.t 20) 1, none, [], false⟩,
        ⟨(some 25), .ext (.t 20) 2, none, [], false⟩,
        ⟨(some 9), .mv (.t 23), none, [], false⟩,
        ⟨(some 10), .mv (.t 24), none, [], false⟩,
        ⟨(some 11), .mv (.t 25), none, [], false⟩])
      (.seq (.reg [
         ⟨(some 26), .mv (.t 11), none, [], false⟩,
         ⟨(some 27), .bin .neq (.t 26) (.k (.int .i64 0)), none, [], false⟩,
         ⟨(some 28), .mv (.t 27), none, [], false⟩,
         ⟨(some 29), .mv (.t 9), (some (28, false)), [], false⟩,
         ⟨(some 30), .bin .neq (.t 29) (.k (.int .i64 2)), (some (28, false)), [], false⟩,
         ⟨(some 31), .pick (.t 28) (.k (.bool true)) (.t 30), none, [], false⟩,
         ⟨(some 32), .mv (.t 31), none, [], false⟩,
         ⟨(some 33), .mv (.t 10), (some (32, false)), [], false⟩,
         ⟨(some 34), .bin .neq (.t 33) (.k (.int .i64 1)), (some (32, false)), [], false⟩,
         ⟨(some 35), .pick (.t 32) (.k (.bool true)) (.t 34), none, [], false⟩])
       (.cond (.t 35) (.seq (.reg [
           ⟨(some 8), .mv (.k (.bool false)), none, [], false⟩])
         (.ret))
        (.skip))))
     (.seq (.reg [
        ⟨(some 36), .mv (.t 0), none, [], false⟩,
        ⟨(some 37), .mv (.t 0), none, [], false⟩,
        ⟨(some 38), .lenv false (.t 37), none, [], false⟩,
        ⟨(some 39), .mnx false (.t 38) [(.k (.int .i64 30))], none, [], false⟩,
        ⟨(some 40), .slc 1 (.t 36) none (some (.t 39)), none, [], false⟩,
        ⟨(some 0), .mv (.t 40), none, [], false⟩])
      (.seq (.reg [
         ⟨(some 41), .mv (.t 0), none, [], false⟩,
         ⟨(some 42), .call (.k (.fn 23 [])) [(.t 41)], none, [], false⟩,
         ⟨(some 12), .mv (.t 42), none, [], false⟩])
       (.seq (.seq (.reg [
           ⟨(some 43), .mv (.t 12), none, [], false⟩,
           ⟨(some 44), .lenv false (.t 43), none, [], false⟩,
           ⟨(some 45), .mv (.k (.int .i64 0)), none, [], false⟩])
         (.blk 0 (.loop (.seq (.reg [
              ⟨(some 46), .bin .lss (.t 45) (.t 44), none, [], false⟩])
            (.seq (.cond (.t 46) (.skip)
              (.exit 0))
             (.seq (.blk 1 (.seq (.reg [
                  ⟨(some 47), .mv (.t 45), none, [], false⟩,
                  ⟨(some 13), .mv (.t 47), none, [], false⟩])
                (.reg [
                  ⟨(some 48), .mv (.t 12), none, [], false⟩,
                  ⟨(some 49), .mv (.t 13), none, [], false⟩,
                  ⟨(some 50), .mv (.t 12), none, [], false⟩,
                  ⟨(some 51), .mv (.t 13), none, [], false⟩,
                  ⟨(some 52), .iad 1 (.t 50) (.t 51), none, [], false⟩,
                  ⟨(some 53), .ld1 (.t 52), none, [], false⟩,
                  ⟨(some 54), .mv (.t 53), none, [], false⟩,
                  ⟨(some 55), .mv (.t 13), (some (54, false)), [], false⟩,
                  ⟨(some 56), .mv (.t 1), (some (54, false)), [], false⟩,
                  ⟨(some 57), .lenv false (.t 56), (some (54, false)), [], false⟩,
                  ⟨(some 58), .bin .lss (.t 55) (.t 57), (some (54, false)), [], false⟩,
                  ⟨(some 59), .mv (.t 58), (some (54, false)), [], false⟩,
                  ⟨(some 60), .mv (.t 1), (some (59, true)), [], false⟩,
                  ⟨(some 61), .mv (.t 13), (some (59, true)), [], false⟩,
                  ⟨(some 62), .iad 1 (.t 60) (.t 61), (some (59, true)), [], false⟩,
                  ⟨(some 63), .ld1 (.t 62), (some (59, true)), [], false⟩,
                  ⟨(some 64), .pick (.t 59) (.t 63) (.k (.bool false)), (some (54, false)), [], false⟩,
                  ⟨(some 65), .pick (.t 54) (.k (.bool true)) (.t 64), none, [], false⟩,
                  ⟨(some 66), .iad 1 (.t 48) (.t 49), none, [], false⟩,
                  ⟨none, .st 1 (.t 66) (.t 65), none, [], false⟩])))
              (.reg [
                ⟨(some 67), .bin .add (.t 45) (.k (.int .i64 1)), none, [], false⟩,
                ⟨(some 45), .mv (.t 67), none, [], false⟩])))))))
        (.seq (.reg [
           ⟨(some 69), .mv (.t 0), none, [], false⟩,
           ⟨(some 70), .mv (.t 2), none, [], false⟩,
           ⟨(some 71), .mv (.t 3), none, [], false⟩,
           ⟨(some 72), .call (.k (.fn 22 [])) [(.t 69), (.t 70), (.t 71)], none, [], false⟩,
           ⟨(some 68), .mv (.t 72), none, [], false⟩,
           ⟨(some 73), .ext (.t 68) 0, none, [], false⟩,
           ⟨(some 74), .ext (.t 68) 1, none, [], false⟩,
           ⟨(some 75), .ext (.t 68) 2, none, [], false⟩,
           ⟨(some 14), .mv (.t 73), none, [], false⟩,
           ⟨(some 15), .mv (.t 74), none, [], false⟩,
           ⟨(some 16), .mv (.t 75), none, [], false⟩])
         (.seq (.reg [
            ⟨(some 77), .mv (.t 12), none, [], false⟩,
            ⟨(some 78), .mv (.t 2), none, [], false⟩,
            ⟨(some 79), .mv (.t 3), none, [], false⟩,
            ⟨(some 80), .call (.k (.fn 22 [])) [(.t 77), (.t 78), (.t 79)], none, [], false⟩,
            ⟨(some 76), .mv (.t 80), none, [], false⟩,
            ⟨(some 81), .ext (.t 76) 0, none, [], false⟩,
            ⟨(some 82), .ext (.t 76) 1, none, [], false⟩,
            ⟨(some 83), .ext (.t 76) 2, none, [], false⟩,
            ⟨(some 17), .mv (.t 81), none, [], false⟩,
            ⟨(some 18), .mv (.t 82), none, [], false⟩,
            ⟨(some 19), .mv (.t 83), none, [], false⟩])
          (.seq (.reg [
             ⟨(some 84), .mv (.t 16), none, [], false⟩,
             ⟨(some 85), .mv (.t 19), none, [], false⟩,
             ⟨(some 86), .bin .eql (.t 84) (.t 85), none, [], false⟩,
             ⟨(some 87), .mv (.t 86), none, [], false⟩,
             ⟨(some 88), .mv (.t 15), (some (87, true)), [], false⟩,
             ⟨(some 89), .bin .neq (.t 88) (.k (.int .i64 1)), (some (87, true)), [], false⟩,
             ⟨(some 90), .mv (.t 89), (some (87, true)), [], false⟩,
             ⟨(some 91), .mv (.t 18), (some (90, false)), [], false⟩,
             ⟨(some 92), .bin .eql (.t 91) (.k (.int .i64 1)), (some (90, false)), [], false⟩,
             ⟨(some 93), .mv (.t 92), (some (90, false)), [], false⟩,
             ⟨(some 94), .mv (.t 17), (some (93, true)), [], false⟩,
             ⟨(some 95), .mv (.t 14), (some (93, true)), [], false⟩,
             ⟨(some 96), .bin .leq (.t 94) (.t 95), (some (93, true)), [], false⟩,
             ⟨(some 97), .pick (.t 93) (.t 96) (.k (.bool false)), (some (90, false)), [], false⟩,
             ⟨(some 98), .pick (.t 90) (.k (.bool true)) (.t 97), (some (87, true)), [], false⟩,
             ⟨(some 99), .pick (.t 87) (.t 98) (.k (.bool false)), none, [], false⟩,
             ⟨(some 8), .mv (.t 99), none, [], false⟩])
           (.ret))))))))
/-- slices.IndexFunc[[]skyway/api.Errno,skyway/api.Errno] -/
def c73 : CF where
  np := 2
  nt := 19
  res := [.t 4]
  code := .seq (.reg [
      ⟨(some 4), .mv (.k (.int .i64 0)), none, [], false⟩])
    (.seq (.seq (.reg [
        ⟨(some 6), .mv (.t 0), none, [], false⟩,
        ⟨(some 7), .lenv false (.t 6), none, [], false⟩,
        ⟨(some 8), .mv (.k (.int .i64 0)), none, [], false⟩])
      (.blk 0 (.loop (.seq (.reg [
           ⟨(some 9), .bin .lss (.t 8) (.t 7), none, [], false⟩])
         (.seq (.cond (.t 9) (.skip)
           (.exit 0))
          (.seq (.blk 1 (.seq (.reg [
               ⟨(some 10), .mv (.t 8), none, [], false⟩,
               ⟨(some 5), .mv (.t 10), none, [], false⟩])
             (.seq (.reg [
                ⟨(some 11), .mv (.t 1), none, [], false⟩,
                ⟨(some 12), .mv (.t 0), none, [], false⟩,
                ⟨(some 13), .mv (.t 5), none, [], false⟩,
                ⟨(some 14), .iad 1 (.t 12) (.t 13), none, [], false⟩,
                ⟨(some 15), .ld1 (.t 14), none, [], false⟩,
                ⟨(some 16), .call (.t 11) [(.t 15)], none, [], false⟩])
              (.cond (.t 16) (.seq (.reg [
                  ⟨(some 17), .mv (.t 5), none, [], false⟩,
                  ⟨(some 4), .mv (.t 17), none, [], false⟩])
                (.ret))
               (.skip)))))
           (.reg [
             ⟨(some 18), .bin .add (.t 8) (.k (.int .i64 1)), none, [], false⟩,
             ⟨(some 8), .mv (.t 18), none, [], false⟩])))))))
     (.seq (.reg [
        ⟨(some 4), .mv (.k (.int .i64 (-1))), none, [], false⟩])
      (.ret)))
/-- slices.ContainsFunc[[]skyway/api.Errno,skyway/api.Errno] -/
def c50 : CF where
  np := 2
  nt := 9
  res := [.t 4]
  code := .seq (.reg [
      ⟨(some 4), .mv (.k (.bool false)), none, [], false⟩])
    (.seq (.reg [
       ⟨(some 5), .mv (.t 0), none, [], false⟩,
       ⟨(some 6), .mv (.t 1), none, [], false⟩,
       ⟨(some 7), .call (.k (.fn 73 [])) [(.t 5), (.t 6)], none, [], false⟩,
       ⟨(some 8), .bin .geq (.t 7) (.k (.int .i64 0)), none, [], false⟩,
       ⟨(some 4), .mv (.t 8), none, [], false⟩])
     (.ret))
/-- skyway/skywaykeep2.fine$1 -/
def c51 : CF where
  np := 1
  nt := 5
  res := [.t 2]
  code := .seq (.reg [
      ⟨(some 2), .mv (.k (.bool false)), none, [], false⟩])
    (.seq (.reg [
       ⟨(some 3), .mv (.t 0), none, [], false⟩,
       ⟨(some 4), .bin .neq (.t 3) (.k (.int .i64 0)), none, [], false⟩,
       ⟨(some 2), .mv (.t 4), none, [], false⟩])
     (.ret))
/-- skyway/skywaykeep2.fine -/
def c24 : CF where
  np := 1
  nt := 6
  res := [.t 2]
  code := .seq (.reg [
      ⟨(some 2), .mv (.k (.bool false)), none, [], false⟩])
    (.seq (.reg [
       ⟨(some 3), .mv (.t 0), none, [], false⟩,
       ⟨(some 4), .call (.k (.fn 50 [])) [(.t 3), (.k (.fn 51 []))], none, [], false⟩,
       ⟨(some 5), .un .not (.t 4), none, [], false⟩,
       ⟨(some 2), .mv (.t 5), none, [], false⟩])
     (.ret))
/-- skyway/skywaykeep2.BeginAlways -/
def c6 : CF where
  np := 2
  nt := 66
  res := [.t 4]
  code := .seq (.reg [
      ⟨(some 4), .mv (.k (.bool false)), none, [], false⟩])
    (.seq (.reg [
       ⟨(some 13), .mv (.t 1), none, [], false⟩,
       ⟨(some 14), .call (.k (.fn 16 [])) [(.t 13), (.k (.int .i64 1)), (.k (.int .i64 16))], none, [], false⟩,
       ⟨(some 1), .mv (.t 14), none, [], false⟩])
     (.seq (.reg [
        ⟨(some 15), .mv (.t 0), none, [], false⟩,
        ⟨(some 16), .mv (.t 1), none, [], false⟩,
        ⟨(some 17), .call (.k (.fn 16 [])) [(.t 15), (.k (.int .i64 1)), (.t 16)], none, [], false⟩,
        ⟨(some 0), .mv (.t 17), none, [], false⟩])
      (.seq (.reg [
         ⟨(some 18), .mksl [.bool false] 1 (.k (.int .i64 20)) (.k (.int .i64 20)), none, [], false⟩,
         ⟨(some 5), .mv (.t 18), none, [], false⟩])
       (.seq (.seq (.reg [
           ⟨(some 19), .mv (.t 5), none, [], false⟩,
           ⟨(some 20), .lenv false (.t 19), none, [], false⟩,
           ⟨(some 21), .mv (.k (.int .i64 0)), none, [], false⟩])
         (.blk 0 (.loop (.seq (.reg [
              ⟨(some 22), .bin .lss (.t 21) (.t 20), none, [], false⟩])
            (.seq (.cond (.t 22) (.skip)
              (.exit 0))
             (.seq (.blk 1 (.seq (.reg [
                  ⟨(some 23), .mv (.t 21), none, [], false⟩,
                  ⟨(some 6), .mv (.t 23), none, [], false⟩])
                (.reg [
                  ⟨(some 24), .mv (.t 5), none, [], false⟩,
                  ⟨(some 25), .mv (.t 6), none, [], false⟩,
                  ⟨(some 26), .iad 1 (.t 24) (.t 25), none, [], false⟩,
                  ⟨none, .st 1 (.t 26) (.k (.bool true)), none, [], false⟩])))
              (.reg [
                ⟨(some 27), .bin .add (.t 21) (.k (.int .i64 1)), none, [], false⟩,
                ⟨(some 21), .mv (.t 27), none, [], false⟩])))))))
        (.seq (.reg [
           ⟨(some 29), .mv (.t 5), none, [], false⟩,
           ⟨(some 30), .mv (.t 0), none, [], false⟩,
           ⟨(some 31), .mv (.t 1), none, [], false⟩,
           ⟨(some 32), .call (.k (.fn 22 [])) [(.t 29), (.t 30), (.t 31)], none, [], false⟩,
           ⟨(some 28), .mv (.t 32), none, [], false⟩,
           ⟨(some 33), .ext (.t 28) 0, none, [], false⟩,
           ⟨(some 34), .ext (.t 28) 1, none, [], false⟩,
           ⟨(some 35), .ext (.t 28) 2, none, [], false⟩,
           ⟨(some 7), .mv (.t 33), none, [], false⟩,
           ⟨(some 8), .mv (.t 34), none, [], false⟩,
           ⟨(some 9), .mv (.t 35), none, [], false⟩])
         (.seq (.reg [
            ⟨(some 37), .mksl [.bool false] 1 (.k (.int .i64 20)) (.k (.int .i64 20)), none, [], false⟩,
            ⟨(some 38), .mv (.t 0), none, [], false⟩,
            ⟨(some 39), .mv (.t 1), none, [], false⟩,
            ⟨(some 40), .call (.k (.fn 22 [])) [(.t 37), (.t 38), (.t 39)], none, [], false⟩,
            ⟨(some 36), .mv (.t 40), none, [], false⟩,
            ⟨(some 41), .ext (.t 36) 0, none, [], false⟩,
            ⟨(some 42), .ext (.t 36) 1, none, [], false⟩,
            ⟨(some 43), .ext (.t 36) 2, none, [], false⟩,
            ⟨(some 10), .mv (.t 41), none, [], false⟩,
            ⟨(some 11), .mv (.t 42), none, [], false⟩,
            ⟨(some 12), .mv (.t 43), none, [], false⟩])
          (.seq (.reg [
             ⟨(some 44), .mv (.t 9), none, [], false⟩,
             ⟨(some 45), .mv (.t 12), none, [], false⟩,
             ⟨(some 46), .mks [.int .i64 0, .int .i64 0] 1 2 [(0, 1, (.t 44)), (1, 1, (.t 45))], none, [], false⟩,
             ⟨(some 47), .call (.k (.fn 24 [])) [(.t 46)], none, [], false⟩,
             ⟨(some 48), .mv (.t 47), none, [], false⟩,
             ⟨(some 49), .mv (.t 7), (some (48, true)), [], false⟩,
             ⟨(some 50), .mv (.t 0), (some (48, true)), [], false⟩,
             ⟨(some 51), .bin .eql (.t 49) (.t 50), (some (48, true)), [], false⟩,
             ⟨(some 52), .pick (.t 48) (.t 51) (.k (.bool false)), none, [], false⟩,
             ⟨(some 53), .mv (.t 52), none, [], false⟩,
             ⟨(some 54), .mv (.t 8), (some (53, true)), [], false⟩,
             ⟨(some 55), .bin .eql (.t 54) (.k (.int .i64 1)), (some (53, true)), [], false⟩,
             ⟨(some 56), .pick (.t 53) (.t 55) (.k (.bool false)), none, [], false⟩,
             ⟨(some 57), .mv (.t 56), none, [], false⟩,
             ⟨(some 58), .mv (.t 10), (some (57, true)), [], false⟩,
             ⟨(some 59), .mv (.t 1), (some (57, true)), [], false⟩,
             ⟨(some 60), .bin .eql (.t 58) (.t 59), (some (57, true)), [], false⟩,
             ⟨(some 61), .pick (.t 57) (.t 60) (.k (.bool false)), none, [], false⟩,
             ⟨(some 62), .mv (.t 61), none, [], false⟩,
             ⟨(some 63), .mv (.t 11), (some (62, true)), [], false⟩,
             ⟨(some 64), .bin .eql (.t 63) (.k (.int .i64 2)), (some (62, true)), [], false⟩,
             ⟨(some 65), .pick (.t 62) (.t 64) (.k (.bool false)), none, [], false⟩,
             ⟨(some 4), .mv (.t 65), none, [], false⟩])
           (.ret))))))))
/-- skyway/filter.Check$1 -/
def c74 : CF where
  np := 1
  nt := 9
  res := [.t 2]
  code := .seq (.reg [
      ⟨(some 2), .mv (.k (.bool false)), none, [], false⟩])
    (.seq (.reg [
       ⟨(some 3), .mv (.t 0), none, [], false⟩,
       ⟨(some 4), .bin .lss (.t 3) (.k (.int .i64 (-12800))), none, [], false⟩,
       ⟨(some 5), .mv (.t 4), none, [], false⟩,
       ⟨(some 6), .mv (.t 0), (some (5, false)), [], false⟩,
       ⟨(some 7), .bin .gtr (.t 6) (.k (.int .i64 12800)), (some (5, false)), [], false⟩,
       ⟨(some 8), .pick (.t 5) (.k (.bool true)) (.t 7), none, [], false⟩,
       ⟨(some 2), .mv (.t 8), none, [], false⟩])
     (.ret))
/-- skyway/radar.placed -/
def c75 : CF where
  np := 1
  nt := 21
  res := [.t 2]
  code := .seq (.reg [
      ⟨(some 1), .box (.t 0), none, [], false⟩,
      ⟨(some 2), .mv (.k (.bool false)), none, [], false⟩])
    (.seq (.reg [
       ⟨(some 3), .fad 0 (.t 1), none, [], false⟩,
       ⟨(some 4), .ld1 (.t 3), none, [], false⟩,
       ⟨(some 5), .bin .geq (.t 4) (.k (.int .i64 (-1000000))), none, [], false⟩,
       ⟨(some 6), .mv (.t 5), none, [], false⟩,
       ⟨(some 7), .fad 0 (.t 1), (some (6, true)), [], false⟩,
       ⟨(some 8), .ld1 (.t 7), (some (6, true)), [], false⟩,
       ⟨(some 9), .bin .leq (.t 8) (.k (.int .i64 1000000)), (some (6, true)), [], false⟩,
       ⟨(some 10), .pick (.t 6) (.t 9) (.k (.bool false)), none, [], false⟩,
       ⟨(some 11), .mv (.t 10), none, [], false⟩,
       ⟨(some 12), .fad 1 (.t 1), (some (11, true)), [], false⟩,
       ⟨(some 13), .ld1 (.t 12), (some (11, true)), [], false⟩,
       ⟨(some 14), .bin .geq (.t 13) (.k (.int .i64 (-1000000))), (some (11, true)), [], false⟩,
       ⟨(some 15), .pick (.t 11) (.t 14) (.k (.bool false)), none, [], false⟩,
       ⟨(some 16), .mv (.t 15), none, [], false⟩,
       ⟨(some 17), .fad 1 (.t 1), (some (16, true)), [], false⟩,
       ⟨(some 18), .ld1 (.t 17), (some (16, true)), [], false⟩,
       ⟨(some 19), .bin .leq (.t 18) (.k (.int .i64 1000000)), (some (16, true)), [], false⟩,
       ⟨(some 20), .pick (.t 16) (.t 19) (.k (.bool false)), none, [], false⟩,
       ⟨(some 2), .mv (.t 20), none, [], false⟩])
     (.ret))
/-- skyway/radar.CheckSpot -/
def c57 : CF where
  np := 1
  nt := 47
  res := [.t 2]
  code := .seq (.reg [
      ⟨(some 1), .box (.t 0), none, [], false⟩,
      ⟨(some 2), .mv (.k (.int .i64 0)), none, [], false⟩])
    (.seq (.seq (.reg [
        ⟨(some 3), .fad 0 (.t 1), none, [], false⟩,
        ⟨(some 4), .ld1 (.t 3), none, [], false⟩,
        ⟨(some 5), .bin .lss (.t 4) (.k (.int .i64 0)), none, [], false⟩,
        ⟨(some 6), .mv (.t 5), none, [], false⟩,
        ⟨(some 7), .fad 0 (.t 1), (some (6, false)), [], false⟩,
        ⟨(some 8), .ld1 (.t 7), (some (6, false)), [], false⟩,
        ⟨(some 9), .bin .gtr (.t 8) (.k (.int .i64 200000)), (some (6, false)), [], false⟩,
        ⟨(some 10), .pick (.t 6) (.k (.bool true)) (.t 9), none, [], false⟩,
        ⟨(some 11), .mv (.t 10), none, [], false⟩,
        ⟨(some 12), .fad 1 (.t 1), (some (11, false)), [], false⟩,
        ⟨(some 13), .ldn 2 (.t 12), (some (11, false)), [], false⟩,
        ⟨(some 14), .call (.k (.fn 75 [])) [(.t 13)], (some (11, false)), [], false⟩,
        ⟨(some 15), .un .not (.t 14), (some (11, false)), [], false⟩,
        ⟨(some 16), .pick (.t 11) (.k (.bool true)) (.t 15), none, [], false⟩,
        ⟨(some 17), .mv (.t 16), none, [], false⟩,
        ⟨(some 18), .fad 3 (.t 1), (some (17, false)), [], false⟩,
        ⟨(some 19), .ld1 (.t 18), (some (17, false)), [], false⟩,
        ⟨(some 20), .bin .lss (.t 19) (.k (.int .i64 0)), (some (17, false)), [], false⟩,
        ⟨(some 21), .pick (.t 17) (.k (.bool true)) (.t 20), none, [], false⟩,
        ⟨(some 22), .mv (.t 21), none, [], false⟩,
        ⟨(some 23), .fad 3 (.t 1), (some (22, false)), [], false⟩,
        ⟨(some 24), .ld1 (.t 23), (some (22, false)), [], false⟩,
        ⟨(some 25), .bin .gtr (.t 24) (.k (.int .i64 60000)), (some (22, false)), [], false⟩,
        ⟨(some 26), .pick (.t 22) (.k (.bool true)) (.t 25), none, [], false⟩,
        ⟨(some 27), .mv (.t 26), none, [], false⟩,
        ⟨(some 28), .fad 4 (.t 1), (some (27, false)), [], false⟩,
        ⟨(some 29), .ld1 (.t 28), (some (27, false)), [], false⟩,
        ⟨(some 30), .bin .lss (.t 29) (.k (.int .i64 (-1))), (some (27, false)), [], false⟩,
        ⟨(some 31), .pick (.t 27) (.k (.bool true)) (.t 30), none, [], false⟩,
        ⟨(some 32), .mv (.t 31), none, [], false⟩,
        ⟨(some 33), .fad 4 (.t 1), (some (32, false)), [], false⟩,
        ⟨(some 34), .ld1 (.t 33), (some (32, false)), [], false⟩,
        ⟨(some 35), .bin .gtr (.t 34) (.k (.int .i64 4095)), (some (32, false)), [], false⟩,
        ⟨(some 36), .pick (.t 32) (.k (.bool true)) (.t 35), none, [], false⟩,
        ⟨(some 37), .mv (.t 36), none, [], false⟩,
        ⟨(some 38), .fad 5 (.t 1), (some (37, false)), [], false⟩,
        ⟨(some 39), .ld1 (.t 38), (some (37, false)), [], false⟩,
        ⟨(some 40), .bin .lss (.t 39) (.k (.int .i64 0)), (some (37, false)), [], false⟩,
        ⟨(some 41), .pick (.t 37) (.k (.bool true)) (.t 40), none, [], false⟩,
        ⟨(some 42), .mv (.t 41), none, [], false⟩,
        ⟨(some 43), .fad 5 (.t 1), (some (42, false)), [], false⟩,
        ⟨(some 44), .ld1 (.t 43), (some (42, false)), [], false⟩,
        ⟨(some 45), .bin .gtr (.t 44) (.k (.int .i64 1000000)), (some (42, false)), [], false⟩,
        ⟨(some 46), .pick (.t 42) (.k (.bool true)) (.t 45), none, [], false⟩])
      (.cond (.t 46) (.seq (.reg [
          ⟨(some 2), .mv (.k (.int .i64 4)), none, [], false⟩])
        (.ret))
       (.skip)))
     (.seq (.reg [
        ⟨(some 2), .mv (.k (.int .i64 0)), none, [], false⟩])
      (.ret)))
/-- skyway/filter.Check -/
def c52 : CF where
  np := 1
  nt := 127
  res := [.t 2]
  code := .seq (.reg [
      ⟨(some 1), .box (.t 0), none, [], false⟩,
      ⟨(some 2), .mv (.k (.int .i64 0)), none, [], false⟩])
    (.seq (.reg [
       ⟨(some 6), .fad 0 (.t 1), none, [], false⟩,
       ⟨(some 7), .ldn 13 (.t 6), none, [], false⟩,
       ⟨(some 3), .new [.int .i64 0, .int .i64 0, .int .i64 0, .int .i64 0, .int .i64 0, .int .i64 0, .int .i64 0, .int .i64 0, .int .i64 0, .int .i64 0, .int .i64 0, .int .i64 0, .int .i64 0], none, [], false⟩,
       ⟨none, .st 13 (.t 3) (.t 7), none, [], false⟩])
     (.seq (.reg [
        ⟨(some 4), .mv (.k (.fn 74 [])), none, [], false⟩])
      (.seq (.blk 0 (.seq (.seq (.reg [
            ⟨(some 9), .fad 2 (.t 3), none, [], false⟩,
            ⟨(some 10), .ld1 (.t 9), none, [], false⟩,
            ⟨(some 11), .bin .lss (.t 10) (.k (.int .i64 0)), none, [], false⟩,
            ⟨(some 12), .mv (.t 11), none, [], false⟩,
            ⟨(some 13), .fad 2 (.t 3), (some (12, false)), [], false⟩,
            ⟨(some 14), .ld1 (.t 13), (some (12, false)), [], false⟩,
            ⟨(some 15), .bin .gtr (.t 14) (.k (.int .i64 200000)), (some (12, false)), [], false⟩,
            ⟨(some 16), .pick (.t 12) (.k (.bool true)) (.t 15), none, [], false⟩,
            ⟨(some 17), .mv (.t 16), none, [], false⟩,
            ⟨(some 18), .fad 3 (.t 3), (some (17, false)), [], false⟩,
            ⟨(some 19), .fad 0 (.t 18), (some (17, false)), [], false⟩,
            ⟨(some 20), .ld1 (.t 19), (some (17, false)), [], false⟩,
            ⟨(some 21), .bin .lss (.t 20) (.k (.int .i64 (-1000000))), (some (17, false)), [], false⟩,
            ⟨(some 22), .pick (.t 17) (.k (.bool true)) (.t 21), none, [], false⟩,
            ⟨(some 23), .mv (.t 22), none, [], false⟩,
            ⟨(some 24), .fad 3 (.t 3), (some (23, false)), [], false⟩,
            ⟨(some 25), .fad 0 (.t 24), (some (23, false)), [], false⟩,
            ⟨(some 26), .ld1 (.t 25), (some (23, false)), [], false⟩,
            ⟨(some 27), .bin .gtr (.t 26) (.k (.int .i64 1000000)), (some (23, false)), [], false⟩,
            ⟨(some 28), .pick (.t 23) (.k (.bool true)) (.t 27), none, [], false⟩,
            ⟨(some 29), .mv (.t 28), none, [], false⟩,
            ⟨(some 30), .fad 3 (.t 3), (some (29, false)), [], false⟩,
            ⟨(some 31), .fad 1 (.t 30), (some (29, false)), [], false⟩,
            ⟨(some 32), .ld1 (.t 31), (some (29, false)), [], false⟩,
            ⟨(some 33), .bin .lss (.t 32) (.k (.int .i64 (-1000000))), (some (29, false)), [], false⟩,
            ⟨(some 34), .pick (.t 29) (.k (.bool true)) (.t 33), none, [], false⟩,
            ⟨(some 35), .mv (.t 34), none, [], false⟩,
            ⟨(some 36), .fad 3 (.t 3), (some (35, false)), [], false⟩,
            ⟨(some 37), .fad 1 (.t 36), (some (35, false)), [], false⟩,
            ⟨(some 38), .ld1 (.t 37), (some (35, false)), [], false⟩,
            ⟨(some 39), .bin .gtr (.t 38) (.k (.int .i64 1000000)), (some (35, false)), [], false⟩,
            ⟨(some 40), .pick (.t 35) (.k (.bool true)) (.t 39), none, [], false⟩,
            ⟨(some 8), .mv (.t 40), none, [], false⟩])
          (.cond (.t 8) (.skip)
           (.seq (.reg [
              ⟨(some 41), .mv (.t 4), none, [], false⟩,
              ⟨(some 42), .fad 5 (.t 3), none, [], false⟩,
              ⟨(some 43), .fad 0 (.t 42), none, [], false⟩,
              ⟨(some 44), .ld1 (.t 43), none, [], false⟩,
              ⟨(some 45), .call (.t 41) [(.t 44)], none, [], false⟩,
              ⟨(some 46), .mv (.t 45), none, [], false⟩,
              ⟨(some 47), .mv (.t 4), (some (46, false)), [], false⟩,
              ⟨(some 48), .fad 5 (.t 3), (some (46, false)), [], false⟩,
              ⟨(some 49), .fad 1 (.t 48), (some (46, false)), [], false⟩,
              ⟨(some 50), .ld1 (.t 49), (some (46, false)), [], false⟩,
              ⟨(some 51), .call (.t 47) [(.t 50)], (some (46, false)), [], false⟩,
              ⟨(some 52), .pick (.t 46) (.k (.bool true)) (.t 51), none, [], false⟩,
              ⟨(some 8), .mv (.t 52), none, [], false⟩])
            (.cond (.t 8) (.skip)
             (.seq (.reg [
                ⟨(some 53), .fad 7 (.t 3), none, [], false⟩,
                ⟨(some 54), .ld1 (.t 53), none, [], false⟩,
                ⟨(some 55), .bin .lss (.t 54) (.k (.int .i64 0)), none, [], false⟩,
                ⟨(some 56), .mv (.t 55), none, [], false⟩,
                ⟨(some 57), .fad 7 (.t 3), (some (56, false)), [], false⟩,
                ⟨(some 58), .ld1 (.t 57), (some (56, false)), [], false⟩,
                ⟨(some 59), .bin .gtr (.t 58) (.k (.int .i64 60000)), (some (56, false)), [], false⟩,
                ⟨(some 60), .pick (.t 56) (.k (.bool true)) (.t 59), none, [], false⟩,
                ⟨(some 8), .mv (.t 60), none, [], false⟩])
              (.cond (.t 8) (.skip)
               (.seq (.reg [
                  ⟨(some 61), .fad 8 (.t 3), none, [], false⟩,
                  ⟨(some 62), .ld1 (.t 61), none, [], false⟩,
                  ⟨(some 63), .bin .lss (.t 62) (.k (.int .i64 (-3200))), none, [], false⟩,
                  ⟨(some 64), .mv (.t 63), none, [], false⟩,
                  ⟨(some 65), .fad 8 (.t 3), (some (64, false)), [], false⟩,
                  ⟨(some 66), .ld1 (.t 65), (some (64, false)), [], false⟩,
                  ⟨(some 67), .bin .gtr (.t 66) (.k (.int .i64 3200)), (some (64, false)), [], false⟩,
                  ⟨(some 68), .pick (.t 64) (.k (.bool true)) (.t 67), none, [], false⟩,
                  ⟨(some 8), .mv (.t 68), none, [], false⟩])
                (.cond (.t 8) (.skip)
                 (.seq (.reg [
                    ⟨(some 69), .fad 9 (.t 3), none, [], false⟩,
                    ⟨(some 70), .ld1 (.t 69), none, [], false⟩,
                    ⟨(some 71), .bin .lss (.t 70) (.k (.int .i64 0)), none, [], false⟩,
                    ⟨(some 72), .mv (.t 71), none, [], false⟩,
                    ⟨(some 73), .fad 9 (.t 3), (some (72, false)), [], false⟩,
                    ⟨(some 74), .ld1 (.t 73), (some (72, false)), [], false⟩,
                    ⟨(some 75), .bin .gtr (.t 74) (.k (.int .i64 4000000)), (some (72, false)), [], false⟩,
                    ⟨(some 76), .pick (.t 72) (.k (.bool true)) (.t 75), none, [], false⟩,
                    ⟨(some 8), .mv (.t 76), none, [], false⟩])
                  (.cond (.t 8) (.skip)
                   (.seq (.reg [
                      ⟨(some 77), .fad 10 (.t 3), none, [], false⟩,
                      ⟨(some 78), .ld1 (.t 77), none, [], false⟩,
                      ⟨(some 79), .bin .lss (.t 78) (.k (.int .i64 (-1))), none, [], false⟩,
                      ⟨(some 80), .mv (.t 79), none, [], false⟩,
                      ⟨(some 81), .fad 10 (.t 3), (some (80, false)), [], false⟩,
                      ⟨(some 82), .ld1 (.t 81), (some (80, false)), [], false⟩,
                      ⟨(some 83), .bin .gtr (.t 82) (.k (.int .i64 4095)), (some (80, false)), [], false⟩,
                      ⟨(some 84), .pick (.t 80) (.k (.bool true)) (.t 83), none, [], false⟩,
                      ⟨(some 8), .mv (.t 84), none, [], false⟩])
                    (.cond (.t 8) (.skip)
                     (.seq (.reg [
                        ⟨(some 85), .fad 13 (.t 1), none, [], false⟩,
                        ⟨(some 86), .ld1 (.t 85), none, [], false⟩,
                        ⟨(some 87), .bin .lss (.t 86) (.k (.int .i64 0)), none, [], false⟩,
                        ⟨(some 88), .mv (.t 87), none, [], false⟩,
                        ⟨(some 89), .fad 13 (.t 1), (some (88, false)), [], false⟩,
                        ⟨(some 90), .ld1 (.t 89), (some (88, false)), [], false⟩,
                        ⟨(some 91), .bin .gtr (.t 90) (.k (.int .i64 409600)), (some (88, false)), [], false⟩,
                        ⟨(some 92), .pick (.t 88) (.k (.bool true)) (.t 91), none, [], false⟩,
                        ⟨(some 8), .mv (.t 92), none, [], false⟩])
                      (.cond (.t 8) (.skip)
                       (.reg [
                         ⟨(some 93), .fad 0 (.t 3), none, [], false⟩,
                         ⟨(some 94), .ld1 (.t 93), none, [], false⟩,
                         ⟨(some 95), .bin .lss (.t 94) (.k (.int .i64 0)), none, [], false⟩,
                         ⟨(some 96), .mv (.t 95), none, [], false⟩,
                         ⟨(some 97), .fad 11 (.t 3), (some (96, false)), [], false⟩,
                         ⟨(some 98), .ld1 (.t 97), (some (96, false)), [], false⟩,
                         ⟨(some 99), .bin .lss (.t 98) (.k (.int .i64 0)), (some (96, false)), [], false⟩,
                         ⟨(some 100), .pick (.t 96) (.k (.bool true)) (.t 99), none, [], false⟩,
                         ⟨(some 101), .mv (.t 100), none, [], false⟩,
                         ⟨(some 102), .fad 12 (.t 3), (some (101, false)), [], false⟩,
                         ⟨(some 103), .ld1 (.t 102), (some (101, false)), [], false⟩,
                         ⟨(some 104), .bin .lss (.t 103) (.k (.int .i64 0)), (some (101, false)), [], false⟩,
                         ⟨(some 105), .pick (.t 101) (.k (.bool true)) (.t 104), none, [], false⟩,
                         ⟨(some 8), .mv (.t 105), none, [], false⟩])))))))))))))))
         (.cond (.t 8) (.seq (.reg [
             ⟨(some 2), .mv (.k (.int .i64 4)), none, [], false⟩])
           (.ret))
          (.seq (.reg [
             ⟨(some 107), .fad 1 (.t 3), none, [], false⟩,
             ⟨(some 108), .ld1 (.t 107), none, [], false⟩,
             ⟨(some 109), .bin .lss (.t 108) (.k (.int .i64 0)), none, [], false⟩,
             ⟨(some 110), .mv (.t 109), none, [], false⟩,
             ⟨(some 111), .fad 1 (.t 3), (some (110, false)), [], false⟩,
             ⟨(some 112), .ld1 (.t 111), (some (110, false)), [], false⟩,
             ⟨(some 113), .bin .gtr (.t 112) (.k (.int .i64 2)), (some (110, false)), [], false⟩,
             ⟨(some 114), .pick (.t 110) (.k (.bool true)) (.t 113), none, [], false⟩,
             ⟨(some 106), .mv (.t 114), none, [], false⟩])
           (.cond (.t 106) (.seq (.reg [
               ⟨(some 2), .mv (.k (.int .i64 1)), none, [], false⟩])
             (.ret))
            (.skip))))))
       (.seq (.seq (.reg [
           ⟨(some 115), .fad 14 (.t 1), none, [], false⟩,
           ⟨(some 116), .ldn 6 (.t 115), none, [], false⟩,
           ⟨(some 117), .call (.k (.fn 57 [])) [(.t 116)], none, [], false⟩,
           ⟨(some 5), .mv (.t 117), none, [], false⟩])
         (.seq (.reg [
            ⟨(some 118), .mv (.t 5), none, [], false⟩,
            ⟨(some 119), .bin .neq (.t 118) (.k (.int .i64 0)), none, [], false⟩])
          (.cond (.t 119) (.seq (.reg [
              ⟨(some 120), .mv (.t 5), none, [], false⟩,
              ⟨(some 2), .mv (.t 120), none, [], false⟩])
            (.ret))
           (.skip))))
        (.seq (.seq (.reg [
            ⟨(some 121), .fad 14 (.t 1), none, [], false⟩,
            ⟨(some 122), .fad 0 (.t 121), none, [], false⟩,
            ⟨(some 123), .ld1 (.t 122), none, [], false⟩,
            ⟨(some 124), .fad 2 (.t 3), none, [], false⟩,
            ⟨(some 125), .ld1 (.t 124), none, [], false⟩,
            ⟨(some 126), .bin .gtr (.t 123) (.t 125), none, [], false⟩])
          (.cond (.t 126) (.seq (.reg [
              ⟨(some 2), .mv (.k (.int .i64 12)), none, [], false⟩])
            (.ret))
           (.skip)))
         (.seq (.reg [
            ⟨(some 2), .mv (.k (.int .i64 0)), none, [], false⟩])
          (.ret)))))))
/-- skyway/filter.down -/
def c53 : CF where
  np := 2
  nt := 14
  res := [.t 4]
  code := .seq (.reg [
      ⟨(some 4), .mv (.k (.int .i64 0)), none, [], false⟩])
    (.seq (.reg [
       ⟨(some 8), .mv (.t 0), none, [], false⟩,
       ⟨(some 9), .mv (.t 1), none, [], false⟩,
       ⟨(some 10), .call (.k (.fn 46 [])) [(.t 8), (.t 9)], none, [], false⟩,
       ⟨(some 7), .mv (.t 10), none, [], false⟩,
       ⟨(some 11), .ext (.t 7) 0, none, [], false⟩,
       ⟨(some 12), .ext (.t 7) 1, none, [], false⟩,
       ⟨(some 5), .mv (.t 11), none, [], false⟩,
       ⟨(some 6), .mv (.t 12), none, [], false⟩])
     (.seq (.reg [
        ⟨(some 13), .mv (.t 5), none, [], false⟩,
        ⟨(some 4), .mv (.t 13), none, [], false⟩])
      (.ret)))
/-- skyway/num.Between -/
def c54 : CF where
  np := 3
  nt := 12
  res := [.t 6]
  code := .seq (.reg [
      ⟨(some 6), .mv (.k (.int .i64 0)), none, [], false⟩])
    (.seq (.reg [
       ⟨(some 7), .mv (.t 1), none, [], false⟩,
       ⟨(some 8), .mv (.t 0), none, [], false⟩,
       ⟨(some 9), .mv (.t 2), none, [], false⟩,
       ⟨(some 10), .mnx false (.t 8) [(.t 9)], none, [], false⟩,
       ⟨(some 11), .mnx true (.t 7) [(.t 10)], none, [], false⟩,
       ⟨(some 6), .mv (.t 11), none, [], false⟩])
     (.ret))
/-- skyway/filter.up -/
def c55 : CF where
  np := 2
  nt := 14
  res := [.t 4]
  code := .seq (.reg [
      ⟨(some 4), .mv (.k (.int .i64 0)), none, [], false⟩])
    (.seq (.reg [
       ⟨(some 8), .mv (.t 0), none, [], false⟩,
       ⟨(some 9), .mv (.t 1), none, [], false⟩,
       ⟨(some 10), .call (.k (.fn 47 [])) [(.t 8), (.t 9)], none, [], false⟩,
       ⟨(some 7), .mv (.t 10), none, [], false⟩,
       ⟨(some 11), .ext (.t 7) 0, none, [], false⟩,
       ⟨(some 12), .ext (.t 7) 1, none, [], false⟩,
       ⟨(some 5), .mv (.t 11), none, [], false⟩,
       ⟨(some 6), .mv (.t 12), none, [], false⟩])
     (.seq (.reg [
        ⟨(some 13), .mv (.t 5), none, [], false⟩,
        ⟨(some 4), .mv (.t 13), none, [], false⟩])
      (.ret)))
/-- skyway/filter.Predict -/
def c27 : CF where
  np := 3
  nt := 136
  res := [.cn 20 6, .t 7]
  code := .seq (.reg [
      ⟨(some 3), .box (.t 0), none, [], false⟩,
      ⟨(some 6), .new [.int .i64 0, .int .i64 0, .int .i64 0, .int .i64 0, .int .i64 0, .int .i64 0, .int .i64 0, .int .i64 0, .int .i64 0, .int .i64 0, .int .i64 0, .int .i64 0, .int .i64 0, .int .i64 0, .int .i64 0, .int .i64 0, .int .i64 0, .int .i64 0, .int .i64 0, .int .i64 0], none, [], false⟩,
      ⟨(some 7), .mv (.k (.int .i64 0)), none, [], false⟩])
    (.seq (.seq (.reg [
        ⟨(some 11), .ldn 20 (.t 3), none, [], false⟩,
        ⟨(some 12), .call (.k (.fn 52 [])) [(.t 11)], none, [], false⟩,
        ⟨(some 8), .mv (.t 12), none, [], false⟩])
      (.seq (.reg [
         ⟨(some 13), .mv (.t 8), none, [], false⟩,
         ⟨(some 14), .bin .neq (.t 13) (.k (.int .i64 0)), none, [], false⟩])
       (.cond (.t 14) (.seq (.reg [
           ⟨(some 15), .mk [.int .i64 0, .int .i64 0, .int .i64 0, .int .i64 0, .int .i64 0, .int .i64 0, .int .i64 0, .int .i64 0, .int .i64 0, .int .i64 0, .int .i64 0, .int .i64 0, .int .i64 0, .int .i64 0, .int .i64 0, .int .i64 0, .int .i64 0, .int .i64 0, .int .i64 0, .int .i64 0] [], none, [], false⟩,
           ⟨(some 16), .mv (.t 8), none, [], false⟩,
           ⟨none, .st 20 (.t 6) (.t 15), none, [], false⟩,
           ⟨(some 7), .mv (.t 16), none, [], false⟩])
         (.ret))
        (.skip))))
     (.seq (.reg [
        ⟨(some 17), .mv (.t 1), none, [], false⟩,
        ⟨(some 18), .fad 0 (.t 3), none, [], false⟩,
        ⟨(some 19), .fad 2 (.t 18), none, [], false⟩,
        ⟨(some 20), .ld1 (.t 19), none, [], false⟩,
        ⟨(some 21), .bin .sub (.t 17) (.t 20), none, [], false⟩,
        ⟨(some 9), .mv (.t 21), none, [], false⟩])
      (.seq (.blk 0 (.seq (.reg [
           ⟨(some 23), .mv (.t 1), none, [], false⟩,
           ⟨(some 24), .bin .lss (.t 23) (.k (.int .i64 0)), none, [], false⟩,
           ⟨(some 25), .mv (.t 24), none, [], false⟩,
           ⟨(some 26), .mv (.t 1), (some (25, false)), [], false⟩,
           ⟨(some 27), .bin .gtr (.t 26) (.k (.int .i64 200000)), (some (25, false)), [], false⟩,
           ⟨(some 28), .pick (.t 25) (.k (.bool true)) (.t 27), none, [], false⟩,
           ⟨(some 29), .mv (.t 28), none, [], false⟩,
           ⟨(some 30), .mv (.t 2), (some (29, false)), [], false⟩,
           ⟨(some 31), .bin .lss (.t 30) (.k (.int .i64 0)), (some (29, false)), [], false⟩,
           ⟨(some 32), .pick (.t 29) (.k (.bool true)) (.t 31), none, [], false⟩,
           ⟨(some 33), .mv (.t 32), none, [], false⟩,
           ⟨(some 34), .mv (.t 2), (some (33, false)), [], false⟩,
           ⟨(some 35), .bin .gtr (.t 34) (.k (.int .i64 20)), (some (33, false)), [], false⟩,
           ⟨(some 36), .pick (.t 33) (.k (.bool true)) (.t 35), none, [], false⟩,
           ⟨(some 22), .mv (.t 36), none, [], false⟩])
         (.cond (.t 22) (.seq (.reg [
             ⟨(some 37), .mk [.int .i64 0, .int .i64 0, .int .i64 0, .int .i64 0, .int .i64 0, .int .i64 0, .int .i64 0, .int .i64 0, .int .i64 0, .int .i64 0, .int .i64 0, .int .i64 0, .int .i64 0, .int .i64 0, .int .i64 0, .int .i64 0, .int .i64 0, .int .i64 0, .int .i64 0, .int .i64 0] [], none, [], false⟩,
             ⟨none, .st 20 (.t 6) (.t 37), none, [], false⟩,
             ⟨(some 7), .mv (.k (.int .i64 4)), none, [], false⟩])
           (.ret))
          (.seq (.reg [
             ⟨(some 39), .mv (.t 9), none, [], false⟩,
             ⟨(some 40), .bin .lss (.t 39) (.k (.int .i64 0)), none, [], false⟩,
             ⟨(some 41), .mv (.t 40), none, [], false⟩,
             ⟨(some 42), .mv (.t 9), (some (41, false)), [], false⟩,
             ⟨(some 43), .bin .gtr (.t 42) (.k (.int .i64 600)), (some (41, false)), [], false⟩,
             ⟨(some 44), .pick (.t 41) (.k (.bool true)) (.t 43), none, [], false⟩,
             ⟨(some 38), .mv (.t 44), none, [], false⟩])
           (.cond (.t 38) (.seq (.reg [
               ⟨(some 45), .mk [.int .i64 0, .int .i64 0, .int .i64 0, .int .i64 0, .int .i64 0, .int .i64 0, .int .i64 0, .int .i64 0, .int .i64 0, .int .i64 0, .int .i64 0, .int .i64 0, .int .i64 0, .int .i64 0, .int .i64 0, .int .i64 0, .int .i64 0, .int .i64 0, .int .i64 0, .int .i64 0] [], none, [], false⟩,
               ⟨none, .st 20 (.t 6) (.t 45), none, [], false⟩,
               ⟨(some 7), .mv (.k (.int .i64 12)), none, [], false⟩])
             (.ret))
            (.seq (.reg [
               ⟨(some 47), .mv (.t 9), none, [], false⟩,
               ⟨(some 48), .bin .eql (.t 47) (.k (.int .i64 0)), none, [], false⟩,
               ⟨(some 46), .mv (.t 48), none, [], false⟩])
             (.cond (.t 46) (.seq (.reg [
                 ⟨(some 49), .ldn 20 (.t 3), none, [], false⟩,
                 ⟨none, .st 20 (.t 6) (.t 49), none, [], false⟩,
                 ⟨(some 7), .mv (.k (.int .i64 0)), none, [], false⟩])
               (.ret))
              (.skip))))))))
       (.seq (.reg [
          ⟨(some 50), .fad 0 (.t 3), none, [], false⟩,
          ⟨(some 10), .mv (.t 50), none, [], false⟩])
        (.seq (.reg [
           ⟨(some 51), .mv (.t 10), none, [], false⟩,
           ⟨(some 52), .mv (.t 1), none, [], false⟩,
           ⟨(some 53), .nchk (.t 51), none, [], false⟩,
           ⟨(some 54), .fad 2 (.t 53), none, [], false⟩,
           ⟨none, .st 1 (.t 54) (.t 52), none, [], false⟩])
         (.seq (.reg [
            ⟨(some 55), .mv (.t 10), none, [], false⟩,
            ⟨(some 56), .mv (.t 10), none, [], false⟩,
            ⟨(some 57), .nchk (.t 56), none, [], false⟩,
            ⟨(some 58), .fad 3 (.t 57), none, [], false⟩,
            ⟨(some 59), .fad 0 (.t 58), none, [], false⟩,
            ⟨(some 60), .ld1 (.t 59), none, [], false⟩,
            ⟨(some 61), .mv (.t 10), none, [], false⟩,
            ⟨(some 62), .nchk (.t 61), none, [], false⟩,
            ⟨(some 63), .fad 5 (.t 62), none, [], false⟩,
            ⟨(some 64), .fad 0 (.t 63), none, [], false⟩,
            ⟨(some 65), .ld1 (.t 64), none, [], false⟩,
            ⟨(some 66), .mv (.t 9), none, [], false⟩,
            ⟨(some 67), .bin .mul (.t 65) (.t 66), none, [], false⟩,
            ⟨(some 70), .mv (.t 10), none, [], false⟩,
            ⟨(some 71), .nchk (.t 70), none, [], false⟩,
            ⟨(some 72), .fad 3 (.t 71), none, [], false⟩,
            ⟨(some 73), .fad 1 (.t 72), none, [], false⟩,
            ⟨(some 74), .ld1 (.t 73), none, [], false⟩,
            ⟨(some 75), .mv (.t 10), none, [], false⟩,
            ⟨(some 76), .nchk (.t 75), none, [], false⟩,
            ⟨(some 77), .fad 5 (.t 76), none, [], false⟩,
            ⟨(some 78), .fad 1 (.t 77), none, [], false⟩,
            ⟨(some 79), .ld1 (.t 78), none, [], false⟩,
            ⟨(some 80), .mv (.t 9), none, [], false⟩,
            ⟨(some 81), .bin .mul (.t 79) (.t 80), none, [], false⟩,
            ⟨(some 68), .call (.k (.fn 53 [])) [(.t 67), (.k (.int .i64 16))], none, [], true⟩,
            ⟨(some 69), .bin .add (.t 60) (.t 68), none, [], false⟩,
            ⟨(some 82), .call (.k (.fn 53 [])) [(.t 81), (.k (.int .i64 16))], none, [], true⟩,
            ⟨(some 83), .bin .add (.t 74) (.t 82), none, [], false⟩,
            ⟨(some 84), .mk [.int .i64 0, .int .i64 0] [(0, 1, (.t 69)), (1, 1, (.t 83))], none, [], false⟩,
            ⟨(some 85), .nchk (.t 55), none, [], false⟩,
            ⟨(some 86), .fad 3 (.t 85), none, [], false⟩,
            ⟨none, .st 2 (.t 86) (.t 84), none, [], false⟩])
          (.seq (.reg [
             ⟨(some 87), .mv (.t 10), none, [], false⟩,
             ⟨(some 88), .mv (.t 10), none, [], false⟩,
             ⟨(some 89), .nchk (.t 88), none, [], false⟩,
             ⟨(some 90), .fad 7 (.t 89), none, [], false⟩,
             ⟨(some 91), .ld1 (.t 90), none, [], false⟩,
             ⟨(some 92), .mv (.t 10), none, [], false⟩,
             ⟨(some 93), .nchk (.t 92), none, [], false⟩,
             ⟨(some 94), .fad 8 (.t 93), none, [], false⟩,
             ⟨(some 95), .ld1 (.t 94), none, [], false⟩,
             ⟨(some 96), .mv (.t 9), none, [], false⟩,
             ⟨(some 97), .bin .mul (.t 95) (.t 96), none, [], false⟩,
             ⟨(some 98), .call (.k (.fn 53 [])) [(.t 97), (.k (.int .i64 16))], none, [], true⟩,
             ⟨(some 99), .bin .add (.t 91) (.t 98), none, [], false⟩,
             ⟨(some 100), .call (.k (.fn 54 [])) [(.t 99), (.k (.int .i64 0)), (.k (.int .i64 60000))], none, [], false⟩,
             ⟨(some 101), .nchk (.t 87), none, [], false⟩,
             ⟨(some 102), .fad 7 (.t 101), none, [], false⟩,
             ⟨none, .st 1 (.t 102) (.t 100), none, [], false⟩])
           (.seq (.reg [
              ⟨(some 103), .mv (.t 10), none, [], false⟩,
              ⟨(some 104), .nchk (.t 103), none, [], false⟩,
              ⟨(some 105), .fad 9 (.t 104), none, [], false⟩,
              ⟨(some 106), .ld1 (.t 105), none, [], false⟩,
              ⟨(some 107), .fad 13 (.t 3), none, [], false⟩,
              ⟨(some 108), .ld1 (.t 107), none, [], false⟩,
              ⟨(some 109), .mv (.t 9), none, [], false⟩,
              ⟨(some 110), .bin .mul (.t 108) (.t 109), none, [], false⟩,
              ⟨(some 112), .mv (.t 2), none, [], false⟩,
              ⟨(some 113), .mv (.t 9), none, [], false⟩,
              ⟨(some 114), .bin .mul (.t 112) (.t 113), none, [], false⟩,
              ⟨(some 115), .mv (.t 9), none, [], false⟩,
              ⟨(some 116), .bin .mul (.t 114) (.t 115), none, [], false⟩,
              ⟨(some 111), .call (.k (.fn 55 [])) [(.t 110), (.k (.int .i64 16))], none, [], true⟩,
              ⟨(some 117), .call (.k (.fn 55 [])) [(.t 116), (.k (.int .i64 2))], none, [], true⟩,
              ⟨(some 118), .bin .add (.t 111) (.t 117), none, [], false⟩,
              ⟨(some 119), .bin .add (.t 118) (.k (.int .i64 2)), none, [], false⟩,
              ⟨(some 120), .bin .add (.t 106) (.t 119), none, [], false⟩,
              ⟨(some 121), .nchk (.t 103), none, [], false⟩,
              ⟨(some 122), .fad 9 (.t 121), none, [], false⟩,
              ⟨none, .st 1 (.t 122) (.t 120), none, [], false⟩])
            (.seq (.reg [
               ⟨(some 123), .fad 13 (.t 3), none, [], false⟩,
               ⟨(some 124), .ld1 (.t 123), none, [], false⟩,
               ⟨(some 125), .mv (.t 2), none, [], false⟩,
               ⟨(some 126), .bin .mul (.k (.int .i64 16)) (.t 125), none, [], false⟩,
               ⟨(some 127), .mv (.t 9), none, [], false⟩,
               ⟨(some 128), .bin .mul (.t 126) (.t 127), none, [], false⟩,
               ⟨(some 129), .bin .add (.t 124) (.t 128), none, [], false⟩,
               ⟨(some 130), .fad 13 (.t 3), none, [], false⟩,
               ⟨none, .st 1 (.t 130) (.t 129), none, [], false⟩])
             (.seq (.seq (.reg [
                 ⟨(some 131), .ldn 20 (.t 3), none, [], false⟩,
                 ⟨(some 132), .call (.k (.fn 52 [])) [(.t 131)], none, [], false⟩,
                 ⟨(some 133), .bin .neq (.t 132) (.k (.int .i64 0)), none, [], false⟩])
               (.cond (.t 133) (.seq (.reg [
                   ⟨(some 134), .mk [.int .i64 0, .int .i64 0, .int .i64 0, .int .i64 0, .int .i64 0, .int .i64 0, .int .i64 0, .int .i64 0, .int .i64 0, .int .i64 0, .int .i64 0, .int .i64 0, .int .i64 0, .int .i64 0, .int .i64 0, .int .i64 0, .int .i64 0, .int .i64 0, .int .i64 0, .int .i64 0] [], none, [], false⟩,
                   ⟨none, .st 20 (.t 6) (.t 134), none, [], false⟩,
                   ⟨(some 7), .mv (.k (.int .i64 8)), none, [], false⟩])
                 (.ret))
                (.skip)))
              (.seq (.reg [
                 ⟨(some 135), .ldn 20 (.t 3), none, [], false⟩,
                 ⟨none, .st 20 (.t 6) (.t 135), none, [], false⟩,
                 ⟨(some 7), .mv (.k (.int .i64 0)), none, [], false⟩])
               (.ret))))))))))))
/-- skyway/coast.Ahead -/
def c25 : CF where
  np := 3
  nt := 74
  res := [.t 6, .t 7]
  code := .seq (.reg [
      ⟨(some 3), .box (.t 0), none, [], false⟩,
      ⟨(some 6), .mv (.k (.sl true 0 0 0 0 0)), none, [], false⟩,
      ⟨(some 7), .mv (.k (.int .i64 0)), none, [], false⟩])
    (.seq (.seq (.reg [
        ⟨(some 13), .ldn 20 (.t 3), none, [], false⟩,
        ⟨(some 14), .call (.k (.fn 52 [])) [(.t 13)], none, [], false⟩,
        ⟨(some 8), .mv (.t 14), none, [], false⟩])
      (.seq (.reg [
         ⟨(some 15), .mv (.t 8), none, [], false⟩,
         ⟨(some 16), .bin .neq (.t 15) (.k (.int .i64 0)), none, [], false⟩])
       (.cond (.t 16) (.seq (.reg [
           ⟨(some 17), .mv (.t 8), none, [], false⟩,
           ⟨(some 6), .mv (.k (.sl true 0 0 0 0 0)), none, [], false⟩,
           ⟨(some 7), .mv (.t 17), none, [], false⟩])
         (.ret))
        (.skip))))
     (.seq (.seq (.reg [
         ⟨(some 18), .mv (.t 1), none, [], false⟩,
         ⟨(some 19), .bin .lss (.t 18) (.k (.int .i64 0)), none, [], false⟩,
         ⟨(some 20), .mv (.t 19), none, [], false⟩,
         ⟨(some 21), .mv (.t 1), (some (20, false)), [], false⟩,
         ⟨(some 22), .bin .gtr (.t 21) (.k (.int .i64 256)), (some (20, false)), [], false⟩,
         ⟨(some 23), .pick (.t 20) (.k (.bool true)) (.t 22), none, [], false⟩,
         ⟨(some 24), .mv (.t 23), none, [], false⟩,
         ⟨(some 25), .mv (.t 1), (some (24, false)), [], false⟩,
         ⟨(some 26), .bin .gtr (.t 25) (.k (.int .i64 0)), (some (24, false)), [], false⟩,
         ⟨(some 27), .mv (.t 26), (some (24, false)), [], false⟩,
         ⟨(some 28), .mv (.t 2), (some (27, true)), [], false⟩,
         ⟨(some 29), .bin .lss (.t 28) (.k (.int .i64 0)), (some (27, true)), [], false⟩,
         ⟨(some 30), .mv (.t 29), (some (27, true)), [], false⟩,
         ⟨(some 31), .mv (.t 2), (some (30, false)), [], false⟩,
         ⟨(some 32), .bin .gtr (.t 31) (.k (.int .i64 20)), (some (30, false)), [], false⟩,
         ⟨(some 33), .pick (.t 30) (.k (.bool true)) (.t 32), (some (27, true)), [], false⟩,
         ⟨(some 34), .pick (.t 27) (.t 33) (.k (.bool false)), (some (24, false)), [], false⟩,
         ⟨(some 35), .pick (.t 24) (.k (.bool true)) (.t 34), none, [], false⟩])
       (.cond (.t 35) (.seq (.reg [
           ⟨(some 6), .mv (.k (.sl true 0 0 0 0 0)), none, [], false⟩,
           ⟨(some 7), .mv (.k (.int .i64 4)), none, [], false⟩])
         (.ret))
        (.skip)))
      (.seq (.reg [
         ⟨(some 9), .mv (.k (.sl true 0 0 0 0 0)), none, [], false⟩])
       (.seq (.seq (.reg [
           ⟨(some 10), .mv (.k (.int .i64 1)), none, [], false⟩])
         (.blk 0 (.loop (.seq (.seq (.reg [
               ⟨(some 36), .mv (.t 10), none, [], false⟩,
               ⟨(some 37), .mv (.t 1), none, [], false⟩,
               ⟨(some 38), .bin .leq (.t 36) (.t 37), none, [], false⟩])
             (.cond (.t 38) (.skip)
              (.exit 0)))
            (.seq (.blk 1 (.seq (.reg [
                 ⟨(some 42), .ldn 20 (.t 3), none, [], false⟩,
                 ⟨(some 43), .fad 0 (.t 3), none, [], false⟩,
                 ⟨(some 44), .fad 2 (.t 43), none, [], false⟩,
                 ⟨(some 45), .ld1 (.t 44), none, [], false⟩,
                 ⟨(some 46), .mv (.t 10), none, [], false⟩,
                 ⟨(some 47), .bin .add (.t 45) (.t 46), none, [], false⟩,
                 ⟨(some 48), .mv (.t 2), none, [], false⟩,
                 ⟨(some 49), .call (.k (.fn 27 [])) [(.t 42), (.t 47), (.t 48)], none, [], false⟩,
                 ⟨(some 41), .mv (.t 49), none, [], false⟩,
                 ⟨(some 50), .ext (.t 41) 0, none, [], false⟩,
                 ⟨(some 51), .ext (.t 41) 1, none, [], false⟩,
                 ⟨(some 11), .new [.int .i64 0, .int .i64 0, .int .i64 0, .int .i64 0, .int .i64 0, .int .i64 0, .int .i64 0, .int .i64 0, .int .i64 0, .int .i64 0, .int .i64 0, .int .i64 0, .int .i64 0, .int .i64 0, .int .i64 0, .int .i64 0, .int .i64 0, .int .i64 0, .int .i64 0, .int .i64 0], none, [], false⟩,
                 ⟨none, .st 20 (.t 11) (.t 50), none, [], false⟩,
                 ⟨(some 12), .mv (.t 51), none, [], false⟩])
               (.seq (.seq (.reg [
                   ⟨(some 52), .mv (.t 12), none, [], false⟩,
                   ⟨(some 53), .bin .eql (.t 52) (.k (.int .i64 8)), none, [], false⟩,
                   ⟨(some 54), .mv (.t 53), none, [], false⟩,
                   ⟨(some 55), .mv (.t 12), (some (54, false)), [], false⟩,
                   ⟨(some 56), .bin .eql (.t 55) (.k (.int .i64 4)), (some (54, false)), [], false⟩,
                   ⟨(some 57), .mv (.t 56), (some (54, false)), [], false⟩,
                   ⟨(some 58), .fad 0 (.t 3), (some (57, true)), [], false⟩,
                   ⟨(some 59), .fad 2 (.t 58), (some (57, true)), [], false⟩,
                   ⟨(some 60), .ld1 (.t 59), (some (57, true)), [], false⟩,
                   ⟨(some 61), .mv (.t 10), (some (57, true)), [], false⟩,
                   ⟨(some 62), .bin .add (.t 60) (.t 61), (some (57, true)), [], false⟩,
                   ⟨(some 63), .bin .gtr (.t 62) (.k (.int .i64 200000)), (some (57, true)), [], false⟩,
                   ⟨(some 64), .pick (.t 57) (.t 63) (.k (.bool false)), (some (54, false)), [], false⟩,
                   ⟨(some 65), .pick (.t 54) (.k (.bool true)) (.t 64), none, [], false⟩])
                 (.cond (.t 65) (.exit 0)
                  (.skip)))
                (.seq (.seq (.reg [
                    ⟨(some 66), .mv (.t 12), none, [], false⟩,
                    ⟨(some 67), .bin .neq (.t 66) (.k (.int .i64 0)), none, [], false⟩])
                  (.cond (.t 67) (.seq (.reg [
                      ⟨(some 68), .mv (.t 12), none, [], false⟩,
                      ⟨(some 6), .mv (.k (.sl true 0 0 0 0 0)), none, [], false⟩,
                      ⟨(some 7), .mv (.t 68), none, [], false⟩])
                    (.ret))
                   (.skip)))
                 (.reg [
                   ⟨(some 69), .mv (.t 9), none, [], false⟩,
                   ⟨(some 70), .ldn 20 (.t 11), none, [], false⟩,
                   ⟨(some 71), .mks [.int .i64 0, .int .i64 0, .int .i64 0, .int .i64 0, .int .i64 0, .int .i64 0, .int .i64 0, .int .i64 0, .int .i64 0, .int .i64 0, .int .i64 0, .int .i64 0, .int .i64 0, .int .i64 0, .int .i64 0, .int .i64 0, .int .i64 0, .int .i64 0, .int .i64 0, .int .i64 0] 20 1 [(0, 20, (.t 70))], none, [], false⟩,
                   ⟨(some 72), .app 20 160 (.t 69) (.t 71), none, [], false⟩,
                   ⟨(some 9), .mv (.t 72), none, [], false⟩])))))
             (.reg [
               ⟨(some 39), .mv (.t 10), none, [], false⟩,
               ⟨(some 40), .bin .add (.t 39) (.k (.int .i64 1)), none, [], false⟩,
               ⟨(some 10), .mv (.t 40), none, [], false⟩]))))))
        (.seq (.reg [
           ⟨(some 73), .mv (.t 9), none, [], false⟩,
           ⟨(some 6), .mv (.t 73), none, [], false⟩,
           ⟨(some 7), .mv (.k (.int .i64 0)), none, [], false⟩])
         (.ret))))))
/-- skyway/coast.Lost -/
def c26 : CF where
  np := 3
  nt := 64
  res := [.t 6, .t 7]
  code := .seq (.reg [
      ⟨(some 3), .box (.t 0), none, [], false⟩,
      ⟨(some 6), .mv (.k (.int .i64 0)), none, [], false⟩,
      ⟨(some 7), .mv (.k (.int .i64 0)), none, [], false⟩])
    (.seq (.seq (.reg [
        ⟨(some 12), .ldn 20 (.t 3), none, [], false⟩,
        ⟨(some 13), .call (.k (.fn 52 [])) [(.t 12)], none, [], false⟩,
        ⟨(some 8), .mv (.t 13), none, [], false⟩])
      (.seq (.reg [
         ⟨(some 14), .mv (.t 8), none, [], false⟩,
         ⟨(some 15), .bin .neq (.t 14) (.k (.int .i64 0)), none, [], false⟩])
       (.cond (.t 15) (.seq (.reg [
           ⟨(some 16), .mv (.t 8), none, [], false⟩,
           ⟨(some 6), .mv (.k (.int .i64 0)), none, [], false⟩,
           ⟨(some 7), .mv (.t 16), none, [], false⟩])
         (.ret))
        (.skip))))
     (.seq (.seq (.reg [
         ⟨(some 17), .mv (.t 1), none, [], false⟩,
         ⟨(some 18), .bin .lss (.t 17) (.k (.int .i64 0)), none, [], false⟩,
         ⟨(some 19), .mv (.t 18), none, [], false⟩,
         ⟨(some 20), .mv (.t 1), (some (19, false)), [], false⟩,
         ⟨(some 21), .bin .gtr (.t 20) (.k (.int .i64 4000000)), (some (19, false)), [], false⟩,
         ⟨(some 22), .pick (.t 19) (.k (.bool true)) (.t 21), none, [], false⟩])
       (.cond (.t 22) (.seq (.reg [
           ⟨(some 6), .mv (.k (.int .i64 0)), none, [], false⟩,
           ⟨(some 7), .mv (.k (.int .i64 4)), none, [], false⟩])
         (.ret))
        (.skip)))
      (.seq (.seq (.reg [
          ⟨(some 9), .mv (.k (.int .i64 0)), none, [], false⟩])
        (.blk 0 (.loop (.seq (.seq (.reg [
              ⟨(some 23), .mv (.t 9), none, [], false⟩,
              ⟨(some 24), .bin .leq (.t 23) (.k (.int .i64 600)), none, [], false⟩])
            (.cond (.t 24) (.skip)
             (.exit 0)))
           (.seq (.blk 1 (.seq (.reg [
                ⟨(some 28), .ldn 20 (.t 3), none, [], false⟩,
                ⟨(some 29), .fad 0 (.t 3), none, [], false⟩,
                ⟨(some 30), .fad 2 (.t 29), none, [], false⟩,
                ⟨(some 31), .ld1 (.t 30), none, [], false⟩,
                ⟨(some 32), .mv (.t 9), none, [], false⟩,
                ⟨(some 33), .bin .add (.t 31) (.t 32), none, [], false⟩,
                ⟨(some 34), .mv (.t 2), none, [], false⟩,
                ⟨(some 35), .call (.k (.fn 27 [])) [(.t 28), (.t 33), (.t 34)], none, [], false⟩,
                ⟨(some 27), .mv (.t 35), none, [], false⟩,
                ⟨(some 36), .ext (.t 27) 0, none, [], false⟩,
                ⟨(some 37), .ext (.t 27) 1, none, [], false⟩,
                ⟨(some 10), .new [.int .i64 0, .int .i64 0, .int .i64 0, .int .i64 0, .int .i64 0, .int .i64 0, .int .i64 0, .int .i64 0, .int .i64 0, .int .i64 0, .int .i64 0, .int .i64 0, .int .i64 0, .int .i64 0, .int .i64 0, .int .i64 0, .int .i64 0, .int .i64 0, .int .i64 0, .int .i64 0], none, [], false⟩,
                ⟨none, .st 20 (.t 10) (.t 36), none, [], false⟩,
                ⟨(some 11), .mv (.t 37), none, [], false⟩])
              (.blk 2 (.seq (.reg [
                  ⟨(some 39), .mv (.t 11), none, [], false⟩,
                  ⟨(some 40), .bin .eql (.t 39) (.k (.int .i64 8)), none, [], false⟩,
                  ⟨(some 41), .mv (.t 40), none, [], false⟩,
                  ⟨(some 42), .mv (.t 11), (some (41, false)), [], false⟩,
                  ⟨(some 43), .bin .eql (.t 42) (.k (.int .i64 4)), (some (41, false)), [], false⟩,
                  ⟨(some 44), .mv (.t 43), (some (41, false)), [], false⟩,
                  ⟨(some 45), .fad 0 (.t 3), (some (44, true)), [], false⟩,
                  ⟨(some 46), .fad 2 (.t 45), (some (44, true)), [], false⟩,
                  ⟨(some 47), .ld1 (.t 46), (some (44, true)), [], false⟩,
                  ⟨(some 48), .mv (.t 9), (some (44, true)), [], false⟩,
                  ⟨(some 49), .bin .add (.t 47) (.t 48), (some (44, true)), [], false⟩,
                  ⟨(some 50), .bin .gtr (.t 49) (.k (.int .i64 200000)), (some (44, true)), [], false⟩,
                  ⟨(some 51), .pick (.t 44) (.t 50) (.k (.bool false)), (some (41, false)), [], false⟩,
                  ⟨(some 52), .pick (.t 41) (.k (.bool true)) (.t 51), none, [], false⟩,
                  ⟨(some 38), .mv (.t 52), none, [], false⟩])
                (.cond (.t 38) (.seq (.reg [
                    ⟨(some 6), .mv (.k (.int .i64 0)), none, [], false⟩,
                    ⟨(some 7), .mv (.k (.int .i64 8)), none, [], false⟩])
                  (.ret))
                 (.seq (.reg [
                    ⟨(some 54), .mv (.t 11), none, [], false⟩,
                    ⟨(some 55), .bin .neq (.t 54) (.k (.int .i64 0)), none, [], false⟩,
                    ⟨(some 53), .mv (.t 55), none, [], false⟩])
                  (.cond (.t 53) (.seq (.reg [
                      ⟨(some 56), .mv (.t 11), none, [], false⟩,
                      ⟨(some 6), .mv (.k (.int .i64 0)), none, [], false⟩,
                      ⟨(some 7), .mv (.t 56), none, [], false⟩])
                    (.ret))
                   (.seq (.reg [
                      ⟨(some 58), .fad 0 (.t 10), none, [], false⟩,
                      ⟨(some 59), .fad 9 (.t 58), none, [], false⟩,
                      ⟨(some 60), .ld1 (.t 59), none, [], false⟩,
                      ⟨(some 61), .mv (.t 1), none, [], false⟩,
                      ⟨(some 62), .bin .gtr (.t 60) (.t 61), none, [], false⟩,
                      ⟨(some 57), .mv (.t 62), none, [], false⟩])
                    (.cond (.t 57) (.seq (.reg [
                        ⟨(some 63), .mv (.t 9), none, [], false⟩,
                        ⟨(some 6), .mv (.t 63), none, [], false⟩,
                        ⟨(some 7), .mv (.k (.int .i64 0)), none, [], false⟩])
                      (.ret))
                     (.skip))))))))))
            (.reg [
              ⟨(some 25), .mv (.t 9), none, [], false⟩,
              ⟨(some 26), .bin .add (.t 25) (.k (.int .i64 1)), none, [], false⟩,
              ⟨(some 9), .mv (.t 26), none, [], false⟩]))))))
       (.seq (.reg [
          ⟨(some 6), .mv (.k (.int .i64 0)), none, [], false⟩,
          ⟨(some 7), .mv (.k (.int .i64 8)), none, [], false⟩])
        (.ret)))))
/-- skyway/skywaykeep2.CoastAhead -/
def c7 : CF where
  np := 4
  nt := 136
  res := [.t 8]
  code := .seq (.reg [
      ⟨(some 4), .box (.t 0), none, [], false⟩,
      ⟨(some 8), .mv (.k (.bool false)), none, [], false⟩])
    (.seq (.seq (.reg [
        ⟨(some 20), .mk [.int .i64 0, .int .i64 0, .int .i64 0, .int .i64 0, .int .i64 0, .int .i64 0, .int .i64 0, .int .i64 0, .int .i64 0, .int .i64 0, .int .i64 0, .int .i64 0, .int .i64 0, .int .i64 0, .int .i64 0, .int .i64 0, .int .i64 0, .int .i64 0, .int .i64 0, .int .i64 0] [], none, [], false⟩,
        ⟨(some 21), .call (.k (.fn 25 [])) [(.t 20), (.k (.int .i64 2)), (.k (.int .i64 0))], none, [], false⟩,
        ⟨(some 19), .mv (.t 21), none, [], false⟩,
        ⟨(some 22), .ext (.t 19) 0, none, [], false⟩,
        ⟨(some 23), .ext (.t 19) 1, none, [], false⟩,
        ⟨(some 9), .mv (.t 22), none, [], false⟩,
        ⟨(some 10), .mv (.t 23), none, [], false⟩])
      (.seq (.reg [
         ⟨(some 24), .mv (.t 10), none, [], false⟩,
         ⟨(some 25), .bin .neq (.t 24) (.k (.int .i64 0)), none, [], false⟩,
         ⟨(some 26), .mv (.t 25), none, [], false⟩,
         ⟨(some 27), .mv (.t 9), (some (26, false)), [], false⟩,
         ⟨(some 28), .lenv false (.t 27), (some (26, false)), [], false⟩,
         ⟨(some 29), .bin .neq (.t 28) (.k (.int .i64 2)), (some (26, false)), [], false⟩,
         ⟨(some 30), .pick (.t 26) (.k (.bool true)) (.t 29), none, [], false⟩,
         ⟨(some 31), .mv (.t 30), none, [], false⟩,
         ⟨(some 32), .mv (.t 9), (some (31, false)), [], false⟩,
         ⟨(some 33), .iad 20 (.t 32) (.k (.int .i64 1)), (some (31, false)), [], false⟩,
         ⟨(some 34), .fad 0 (.t 33), (some (31, false)), [], false⟩,
         ⟨(some 35), .fad 9 (.t 34), (some (31, false)), [], false⟩,
         ⟨(some 36), .ld1 (.t 35), (some (31, false)), [], false⟩,
         ⟨(some 37), .bin .neq (.t 36) (.k (.int .i64 2)), (some (31, false)), [], false⟩,
         ⟨(some 38), .pick (.t 31) (.k (.bool true)) (.t 37), none, [], false⟩])
       (.cond (.t 38) (.seq (.reg [
           ⟨(some 8), .mv (.k (.bool false)), none, [], false⟩])
         (.ret))
        (.skip))))
     (.seq (.reg [
        ⟨(some 39), .mv (.t 1), none, [], false⟩,
        ⟨(some 40), .call (.k (.fn 16 [])) [(.t 39), (.k (.int .i64 0)), (.k (.int .i64 60))], none, [], false⟩,
        ⟨(some 1), .mv (.t 40), none, [], false⟩])
      (.seq (.reg [
         ⟨(some 42), .ldn 20 (.t 4), none, [], false⟩,
         ⟨(some 43), .mv (.t 1), none, [], false⟩,
         ⟨(some 44), .mv (.t 3), none, [], false⟩,
         ⟨(some 45), .call (.k (.fn 25 [])) [(.t 42), (.t 43), (.t 44)], none, [], false⟩,
         ⟨(some 41), .mv (.t 45), none, [], false⟩,
         ⟨(some 46), .ext (.t 41) 0, none, [], false⟩,
         ⟨(some 47), .ext (.t 41) 1, none, [], false⟩,
         ⟨(some 11), .mv (.t 46), none, [], false⟩,
         ⟨(some 12), .mv (.t 47), none, [], false⟩])
       (.seq (.reg [
          ⟨(some 49), .ldn 20 (.t 4), none, [], false⟩,
          ⟨(some 50), .mv (.t 2), none, [], false⟩,
          ⟨(some 51), .mv (.t 3), none, [], false⟩,
          ⟨(some 52), .call (.k (.fn 26 [])) [(.t 49), (.t 50), (.t 51)], none, [], false⟩,
          ⟨(some 48), .mv (.t 52), none, [], false⟩,
          ⟨(some 53), .ext (.t 48) 0, none, [], false⟩,
          ⟨(some 54), .ext (.t 48) 1, none, [], false⟩,
          ⟨(some 13), .mv (.t 53), none, [], false⟩,
          ⟨(some 14), .mv (.t 54), none, [], false⟩])
        (.seq (.seq (.reg [
            ⟨(some 55), .mv (.t 12), none, [], false⟩,
            ⟨(some 56), .bin .neq (.t 55) (.k (.int .i64 0)), none, [], false⟩])
          (.cond (.t 56) (.seq (.reg [
              ⟨(some 57), .mv (.t 11), none, [], false⟩,
              ⟨(some 58), .lenv false (.t 57), none, [], false⟩,
              ⟨(some 59), .bin .eql (.t 58) (.k (.int .i64 0)), none, [], false⟩,
              ⟨(some 8), .mv (.t 59), none, [], false⟩])
            (.ret))
           (.skip)))
         (.seq (.seq (.reg [
             ⟨(some 60), .mv (.t 11), none, [], false⟩,
             ⟨(some 61), .lenv false (.t 60), none, [], false⟩,
             ⟨(some 62), .mv (.k (.int .i64 0)), none, [], false⟩])
           (.blk 0 (.loop (.seq (.reg [
                ⟨(some 63), .bin .lss (.t 62) (.t 61), none, [], false⟩])
              (.seq (.cond (.t 63) (.skip)
                (.exit 0))
               (.seq (.blk 1 (.seq (.reg [
                    ⟨(some 64), .mv (.t 62), none, [], false⟩,
                    ⟨(some 65), .iad 20 (.t 60) (.t 62), none, [], false⟩,
                    ⟨(some 66), .ldn 20 (.t 65), none, [], false⟩,
                    ⟨(some 16), .new [.int .i64 0, .int .i64 0, .int .i64 0, .int .i64 0, .int .i64 0, .int .i64 0, .int .i64 0, .int .i64 0, .int .i64 0, .int .i64 0, .int .i64 0, .int .i64 0, .int .i64 0, .int .i64 0, .int .i64 0, .int .i64 0, .int .i64 0, .int .i64 0, .int .i64 0, .int .i64 0], none, [], false⟩,
                    ⟨(some 15), .mv (.t 64), none, [], false⟩,
                    ⟨none, .st 20 (.t 16) (.t 66), none, [], false⟩])
                  (.seq (.reg [
                     ⟨(some 68), .ldn 20 (.t 4), none, [], false⟩,
                     ⟨(some 69), .fad 0 (.t 4), none, [], false⟩,
                     ⟨(some 70), .fad 2 (.t 69), none, [], false⟩,
                     ⟨(some 71), .ld1 (.t 70), none, [], false⟩,
                     ⟨(some 72), .mv (.t 15), none, [], false⟩,
                     ⟨(some 73), .bin .add (.t 71) (.t 72), none, [], false⟩,
                     ⟨(some 74), .bin .add (.t 73) (.k (.int .i64 1)), none, [], false⟩,
                     ⟨(some 75), .mv (.t 3), none, [], false⟩,
                     ⟨(some 76), .call (.k (.fn 27 [])) [(.t 68), (.t 74), (.t 75)], none, [], false⟩,
                     ⟨(some 67), .mv (.t 76), none, [], false⟩,
                     ⟨(some 77), .ext (.t 67) 0, none, [], false⟩,
                     ⟨(some 78), .ext (.t 67) 1, none, [], false⟩,
                     ⟨(some 17), .new [.int .i64 0, .int .i64 0, .int .i64 0, .int .i64 0, .int .i64 0, .int .i64 0, .int .i64 0, .int .i64 0, .int .i64 0, .int .i64 0, .int .i64 0, .int .i64 0, .int .i64 0, .int .i64 0, .int .i64 0, .int .i64 0, .int .i64 0, .int .i64 0, .int .i64 0, .int .i64 0], none, [], false⟩,
                     ⟨none, .st 20 (.t 17) (.t 77), none, [], false⟩,
                     ⟨(some 18), .mv (.t 78), none, [], false⟩])
                   (.seq (.seq (.reg [
                       ⟨(some 79), .mv (.t 18), none, [], false⟩,
                       ⟨(some 80), .bin .neq (.t 79) (.k (.int .i64 0)), none, [], false⟩,
                       ⟨(some 81), .mv (.t 80), none, [], false⟩,
                       ⟨(some 82), .ldn 20 (.t 16), (some (81, false)), [], false⟩,
                       ⟨(some 83), .ldn 20 (.t 17), (some (81, false)), [], false⟩,
                       ⟨(some 84), .eqs true (some [.i, .i, .i, .i, .i, .i, .i, .i, .i, .i, .i, .i, .i, .i, .i, .i, .i, .i, .i, .i]) (.t 82) (.t 83), (some (81, false)), [], false⟩,
                       ⟨(some 85), .pick (.t 81) (.k (.bool true)) (.t 84), none, [], false⟩,
                       ⟨(some 86), .mv (.t 85), none, [], false⟩,
                       ⟨(some 87), .mv (.t 15), (some (86, false)), [], false⟩,
                       ⟨(some 88), .bin .gtr (.t 87) (.k (.int .i64 0)), (some (86, false)), [], false⟩,
                       ⟨(some 89), .mv (.t 88), (some (86, false)), [], false⟩,
                       ⟨(some 90), .fad 0 (.t 16), (some (89, true)), [], false⟩,
                       ⟨(some 91), .fad 9 (.t 90), (some (89, true)), [], false⟩,
                       ⟨(some 92), .ld1 (.t 91), (some (89, true)), [], false⟩,
                       ⟨(some 93), .mv (.t 11), (some (89, true)), [], false⟩,
                       ⟨(some 94), .mv (.t 15), (some (89, true)), [], false⟩,
                       ⟨(some 95), .bin .sub (.t 94) (.k (.int .i64 1)), (some (89, true)), [], false⟩,
                       ⟨(some 96), .iad 20 (.t 93) (.t 95), (some (89, true)), [], false⟩,
                       ⟨(some 97), .fad 0 (.t 96), (some (89, true)), [], false⟩,
                       ⟨(some 98), .fad 9 (.t 97), (some (89, true)), [], false⟩,
                       ⟨(some 99), .ld1 (.t 98), (some (89, true)), [], false⟩,
                       ⟨(some 100), .bin .lss (.t 92) (.t 99), (some (89, true)), [], false⟩,
                       ⟨(some 101), .pick (.t 89) (.t 100) (.k (.bool false)), (some (86, false)), [], false⟩,
                       ⟨(some 102), .pick (.t 86) (.k (.bool true)) (.t 101), none, [], false⟩])
                     (.cond (.t 102) (.seq (.reg [
                         ⟨(some 8), .mv (.k (.bool false)), none, [], false⟩])
                       (.ret))
                      (.skip)))
                    (.seq (.reg [
                       ⟨(some 103), .mv (.t 14), none, [], false⟩,
                       ⟨(some 104), .bin .eql (.t 103) (.k (.int .i64 0)), none, [], false⟩,
                       ⟨(some 105), .mv (.t 104), none, [], false⟩,
                       ⟨(some 106), .fad 0 (.t 16), (some (105, true)), [], false⟩,
                       ⟨(some 107), .fad 9 (.t 106), (some (105, true)), [], false⟩,
                       ⟨(some 108), .ld1 (.t 107), (some (105, true)), [], false⟩,
                       ⟨(some 109), .mv (.t 2), (some (105, true)), [], false⟩,
                       ⟨(some 110), .bin .gtr (.t 108) (.t 109), (some (105, true)), [], false⟩,
                       ⟨(some 111), .mv (.t 15), (some (105, true)), [], false⟩,
                       ⟨(some 112), .bin .add (.t 111) (.k (.int .i64 1)), (some (105, true)), [], false⟩,
                       ⟨(some 113), .mv (.t 13), (some (105, true)), [], false⟩,
                       ⟨(some 114), .bin .geq (.t 112) (.t 113), (some (105, true)), [], false⟩,
                       ⟨(some 115), .eqs true none (.t 110) (.t 114), (some (105, true)), [], false⟩,
                       ⟨(some 116), .pick (.t 105) (.t 115) (.k (.bool false)), none, [], false⟩])
                     (.cond (.t 116) (.seq (.reg [
                         ⟨(some 8), .mv (.k (.bool false)), none, [], false⟩])
                       (.ret))
                      (.skip)))))))
                (.reg [
                  ⟨(some 117), .bin .add (.t 62) (.k (.int .i64 1)), none, [], false⟩,
                  ⟨(some 62), .mv (.t 117), none, [], false⟩])))))))
          (.seq (.reg [
             ⟨(some 118), .mv (.t 11), none, [], false⟩,
             ⟨(some 119), .lenv false (.t 118), none, [], false⟩,
             ⟨(some 120), .mv (.t 1), none, [], false⟩,
             ⟨(some 121), .bin .leq (.t 119) (.t 120), none, [], false⟩,
             ⟨(some 122), .mv (.t 121), none, [], false⟩,
             ⟨(some 123), .mv (.t 14), (some (122, true)), [], false⟩,
             ⟨(some 124), .bin .neq (.t 123) (.k (.int .i64 0)), (some (122, true)), [], false⟩,
             ⟨(some 125), .mv (.t 124), (some (122, true)), [], false⟩,
             ⟨(some 126), .mv (.t 13), (some (125, false)), [], false⟩,
             ⟨(some 127), .bin .eql (.t 126) (.k (.int .i64 0)), (some (125, false)), [], false⟩,
             ⟨(some 128), .fad 0 (.t 4), (some (125, false)), [], false⟩,
             ⟨(some 129), .fad 9 (.t 128), (some (125, false)), [], false⟩,
             ⟨(some 130), .ld1 (.t 129), (some (125, false)), [], false⟩,
             ⟨(some 131), .mv (.t 2), (some (125, false)), [], false⟩,
             ⟨(some 132), .bin .gtr (.t 130) (.t 131), (some (125, false)), [], false⟩,
             ⟨(some 133), .eqs false none (.t 127) (.t 132), (some (125, false)), [], false⟩,
             ⟨(some 134), .pick (.t 125) (.k (.bool true)) (.t 133), (some (122, true)), [], false⟩,
             ⟨(some 135), .pick (.t 122) (.t 134) (.k (.bool false)), none, [], false⟩,
             ⟨(some 8), .mv (.t 135), none, [], false⟩])
           (.ret))))))))
/-- skyway/filter.Begin -/
def c56 : CF where
  np := 1
  nt := 24
  res := [.cn 20 2, .t 3]
  code := .seq (.reg [
      ⟨(some 1), .box (.t 0), none, [], false⟩,
      ⟨(some 2), .new [.int .i64 0, .int .i64 0, .int .i64 0, .int .i64 0, .int .i64 0, .int .i64 0, .int .i64 0, .int .i64 0, .int .i64 0, .int .i64 0, .int .i64 0, .int .i64 0, .int .i64 0, .int .i64 0, .int .i64 0, .int .i64 0, .int .i64 0, .int .i64 0, .int .i64 0, .int .i64 0], none, [], false⟩,
      ⟨(some 3), .mv (.k (.int .i64 0)), none, [], false⟩])
    (.seq (.seq (.reg [
        ⟨(some 5), .ldn 6 (.t 1), none, [], false⟩,
        ⟨(some 6), .call (.k (.fn 57 [])) [(.t 5)], none, [], false⟩,
        ⟨(some 4), .mv (.t 6), none, [], false⟩])
      (.seq (.reg [
         ⟨(some 7), .mv (.t 4), none, [], false⟩,
         ⟨(some 8), .bin .neq (.t 7) (.k (.int .i64 0)), none, [], false⟩])
       (.cond (.t 8) (.seq (.reg [
           ⟨(some 9), .mk [.int .i64 0, .int .i64 0, .int .i64 0, .int .i64 0, .int .i64 0, .int .i64 0, .int .i64 0, .int .i64 0, .int .i64 0, .int .i64 0, .int .i64 0, .int .i64 0, .int .i64 0, .int .i64 0, .int .i64 0, .int .i64 0, .int .i64 0, .int .i64 0, .int .i64 0, .int .i64 0] [], none, [], false⟩,
           ⟨(some 10), .mv (.t 4), none, [], false⟩,
           ⟨none, .st 20 (.t 2) (.t 9), none, [], false⟩,
           ⟨(some 3), .mv (.t 10), none, [], false⟩])
         (.ret))
        (.skip))))
     (.seq (.reg [
        ⟨(some 11), .fad 0 (.t 1), none, [], false⟩,
        ⟨(some 12), .ld1 (.t 11), none, [], false⟩,
        ⟨(some 13), .fad 1 (.t 1), none, [], false⟩,
        ⟨(some 14), .ldn 2 (.t 13), none, [], false⟩,
        ⟨(some 15), .fad 3 (.t 1), none, [], false⟩,
        ⟨(some 16), .ld1 (.t 15), none, [], false⟩,
        ⟨(some 17), .fad 5 (.t 1), none, [], false⟩,
        ⟨(some 18), .ld1 (.t 17), none, [], false⟩,
        ⟨(some 19), .fad 4 (.t 1), none, [], false⟩,
        ⟨(some 20), .ld1 (.t 19), none, [], false⟩,
        ⟨(some 21), .mk [.int .i64 0, .int .i64 0, .int .i64 0, .int .i64 0, .int .i64 0, .int .i64 0, .int .i64 0, .int .i64 0, .int .i64 0, .int .i64 0, .int .i64 0, .int .i64 0, .int .i64 0] [(2, 1, (.t 12)), (3, 2, (.t 14)), (7, 1, (.t 16)), (9, 1, (.t 18)), (10, 1, (.t 20)), (11, 1, (.k (.int .i64 1)))], none, [], false⟩,
        ⟨(some 22), .ldn 6 (.t 1), none, [], false⟩,
        ⟨(some 23), .mk [.int .i64 0, .int .i64 0, .int .i64 0, .int .i64 0, .int .i64 0, .int .i64 0, .int .i64 0, .int .i64 0, .int .i64 0, .int .i64 0, .int .i64 0, .int .i64 0, .int .i64 0, .int .i64 0, .int .i64 0, .int .i64 0, .int .i64 0, .int .i64 0, .int .i64 0, .int .i64 0] [(0, 13, (.t 21)), (13, 1, (.k (.int .i64 6400))), (14, 6, (.t 22))], none, [], false⟩,
        ⟨none, .st 20 (.t 2) (.t 23), none, [], false⟩,
        ⟨(some 3), .mv (.k (.int .i64 0)), none, [], false⟩])
      (.ret)))
/-- skyway/skywaykeep2.begins -/
def c28 : CF where
  np := 0
  nt := 29
  res := [.t 0]
  code := .seq (.reg [
      ⟨(some 0), .mv (.k (.bool false)), none, [], false⟩])
    (.seq (.reg [
       ⟨(some 4), .mk [.int .i64 0, .int .i64 0] [(0, 1, (.k (.int .i64 7)))], none, [], false⟩,
       ⟨(some 5), .mk [.int .i64 0, .int .i64 0, .int .i64 0, .int .i64 0, .int .i64 0, .int .i64 0] [(1, 2, (.t 4)), (5, 1, (.k (.int .i64 9)))], none, [], false⟩,
       ⟨(some 6), .call (.k (.fn 56 [])) [(.t 5)], none, [], false⟩,
       ⟨(some 3), .mv (.t 6), none, [], false⟩,
       ⟨(some 7), .ext (.t 3) 0, none, [], false⟩,
       ⟨(some 8), .ext (.t 3) 1, none, [], false⟩,
       ⟨(some 1), .new [.int .i64 0, .int .i64 0, .int .i64 0, .int .i64 0, .int .i64 0, .int .i64 0, .int .i64 0, .int .i64 0, .int .i64 0, .int .i64 0, .int .i64 0, .int .i64 0, .int .i64 0, .int .i64 0, .int .i64 0, .int .i64 0, .int .i64 0, .int .i64 0, .int .i64 0, .int .i64 0], none, [], false⟩,
       ⟨none, .st 20 (.t 1) (.t 7), none, [], false⟩,
       ⟨(some 2), .mv (.t 8), none, [], false⟩])
     (.seq (.reg [
        ⟨(some 9), .mv (.t 2), none, [], false⟩,
        ⟨(some 10), .bin .eql (.t 9) (.k (.int .i64 0)), none, [], false⟩,
        ⟨(some 11), .mv (.t 10), none, [], false⟩,
        ⟨(some 12), .fad 0 (.t 1), (some (11, true)), [], false⟩,
        ⟨(some 13), .fad 3 (.t 12), (some (11, true)), [], false⟩,
        ⟨(some 14), .fad 0 (.t 13), (some (11, true)), [], false⟩,
        ⟨(some 15), .ld1 (.t 14), (some (11, true)), [], false⟩,
        ⟨(some 16), .bin .eql (.t 15) (.k (.int .i64 7)), (some (11, true)), [], false⟩,
        ⟨(some 17), .pick (.t 11) (.t 16) (.k (.bool false)), none, [], false⟩,
        ⟨(some 18), .mv (.t 17), none, [], false⟩,
        ⟨(some 19), .fad 0 (.t 1), (some (18, true)), [], false⟩,
        ⟨(some 20), .fad 9 (.t 19), (some (18, true)), [], false⟩,
        ⟨(some 21), .ld1 (.t 20), (some (18, true)), [], false⟩,
        ⟨(some 22), .bin .eql (.t 21) (.k (.int .i64 9)), (some (18, true)), [], false⟩,
        ⟨(some 23), .pick (.t 18) (.t 22) (.k (.bool false)), none, [], false⟩,
        ⟨(some 24), .mv (.t 23), none, [], false⟩,
        ⟨(some 25), .fad 13 (.t 1), (some (24, true)), [], false⟩,
        ⟨(some 26), .ld1 (.t 25), (some (24, true)), [], false⟩,
        ⟨(some 27), .bin .eql (.t 26) (.k (.int .i64 6400)), (some (24, true)), [], false⟩,
        ⟨(some 28), .pick (.t 24) (.t 27) (.k (.bool false)), none, [], false⟩,
        ⟨(some 0), .mv (.t 28), none, [], false⟩])
      (.ret)))
/-- skyway/filter.distance -/
def c58 : CF where
  np := 2
  nt := 28
  res := [.t 4]
  code := .seq (.reg [
      ⟨(some 2), .box (.t 0), none, [], false⟩,
      ⟨(some 3), .box (.t 1), none, [], false⟩,
      ⟨(some 4), .mv (.k (.int .i64 0)), none, [], false⟩])
    (.seq (.reg [
       ⟨(some 5), .fad 0 (.t 2), none, [], false⟩,
       ⟨(some 6), .ld1 (.t 5), none, [], false⟩,
       ⟨(some 7), .fad 0 (.t 3), none, [], false⟩,
       ⟨(some 8), .ld1 (.t 7), none, [], false⟩,
       ⟨(some 9), .bin .sub (.t 6) (.t 8), none, [], false⟩,
       ⟨(some 10), .fad 0 (.t 2), none, [], false⟩,
       ⟨(some 11), .ld1 (.t 10), none, [], false⟩,
       ⟨(some 12), .fad 0 (.t 3), none, [], false⟩,
       ⟨(some 13), .ld1 (.t 12), none, [], false⟩,
       ⟨(some 14), .bin .sub (.t 11) (.t 13), none, [], false⟩,
       ⟨(some 15), .bin .mul (.t 9) (.t 14), none, [], false⟩,
       ⟨(some 16), .fad 1 (.t 2), none, [], false⟩,
       ⟨(some 17), .ld1 (.t 16), none, [], false⟩,
       ⟨(some 18), .fad 1 (.t 3), none, [], false⟩,
       ⟨(some 19), .ld1 (.t 18), none, [], false⟩,
       ⟨(some 20), .bin .sub (.t 17) (.t 19), none, [], false⟩,
       ⟨(some 21), .fad 1 (.t 2), none, [], false⟩,
       ⟨(some 22), .ld1 (.t 21), none, [], false⟩,
       ⟨(some 23), .fad 1 (.t 3), none, [], false⟩,
       ⟨(some 24), .ld1 (.t 23), none, [], false⟩,
       ⟨(some 25), .bin .sub (.t 22) (.t 24), none, [], false⟩,
       ⟨(some 26), .bin .mul (.t 20) (.t 25), none, [], false⟩,
       ⟨(some 27), .bin .add (.t 15) (.t 26), none, [], false⟩,
       ⟨(some 4), .mv (.t 27), none, [], false⟩])
     (.ret))
/-- skyway/filter.mix -/
def c59 : CF where
  np := 3
  nt := 15
  res := [.t 6]
  code := .seq (.reg [
      ⟨(some 6), .mv (.k (.int .i64 0)), none, [], false⟩])
    (.seq (.reg [
       ⟨(some 7), .mv (.t 0), none, [], false⟩,
       ⟨(some 8), .mv (.t 1), none, [], false⟩,
       ⟨(some 9), .mv (.t 0), none, [], false⟩,
       ⟨(some 10), .bin .sub (.t 8) (.t 9), none, [], false⟩,
       ⟨(some 11), .mv (.t 2), none, [], false⟩,
       ⟨(some 12), .bin .mul (.t 10) (.t 11), none, [], false⟩,
       ⟨(some 13), .call (.k (.fn 53 [])) [(.t 12), (.k (.int .i64 256))], none, [], false⟩,
       ⟨(some 14), .bin .add (.t 7) (.t 13), none, [], false⟩,
       ⟨(some 6), .mv (.t 14), none, [], false⟩])
     (.ret))
theorem ok15 : cFunc Try.prog Try.f15 = some c15 := by kernel_rfl
theorem ok16 : cFunc Try.prog Try.f16 = some c16 := by kernel_rfl
theorem ok18 : cFunc Try.prog Try.f18 = some c18 := by kernel_rfl
theorem ok44 : cFunc Try.prog Try.f44 = some c44 := by kernel_rfl
theorem ok17 : cFunc Try.prog Try.f17 = some c17 := by kernel_rfl
theorem ok45 : cFunc Try.prog Try.f45 = some c45 := by kernel_rfl
theorem ok46 : cFunc Try.prog Try.f46 = some c46 := by kernel_rfl
theorem ok47 : cFunc Try.prog Try.f47 = some c47 := by kernel_rfl
theorem ok19 : cFunc Try.prog Try.f19 = some c19 := by kernel_rfl
theorem ok20 : cFunc Try.prog Try.f20 = some c20 := by kernel_rfl
theorem ok3 : cFunc Try.prog Try.f3 = some c3 := by kernel_rfl
theorem ok21 : cFunc Try.prog Try.f21 = some c21 := by kernel_rfl
theorem ok4 : cFunc Try.prog Try.f4 = some c4 := by kernel_rfl
theorem ok48 : cFunc Try.prog Try.f48 = some c48 := by kernel_rfl
theorem ok70 : cFunc Try.prog Try.f70 = some c70 := by kernel_rfl
theorem ok80 : cFunc Try.prog Try.f80 = some c80 := by kernel_rfl
theorem ok81 : cFunc Try.prog Try.f81 = some c81 := by kernel_rfl
theorem ok71 : cFunc Try.prog Try.f71 = some c71 := by kernel_rfl
theorem ok72 : cFunc Try.prog Try.f72 = some c72 := by kernel_rfl
theorem ok49 : cFunc Try.prog Try.f49 = some c49 := by kernel_rfl
theorem ok22 : cFunc Try.prog Try.f22 = some c22 := by kernel_rfl
theorem ok23 : cFunc Try.prog Try.f23 = some c23 := by kernel_rfl
theorem ok5 : cFunc Try.prog Try.f5 = some c5 := by kernel_rfl
theorem ok73 : cFunc Try.prog Try.f73 = some c73 := by kernel_rfl
theorem ok50 : cFunc Try.prog Try.f50 = some c50 := by kernel_rfl
theorem ok51 : cFunc Try.prog Try.f51 = some c51 := by kernel_rfl
theorem ok24 : cFunc Try.prog Try.f24 = some c24 := by kernel_rfl
theorem ok6 : cFunc Try.prog Try.f6 = some c6 := by kernel_rfl
theorem ok74 : cFunc Try.prog Try.f74 = some c74 := by kernel_rfl
theorem ok75 : cFunc Try.prog Try.f75 = some c75 := by kernel_rfl
theorem ok57 : cFunc Try.prog Try.f57 = some c57 := by kernel_rfl
theorem ok52 : cFunc Try.prog Try.f52 = some c52 := by kernel_rfl
theorem ok53 : cFunc Try.prog Try.f53 = some c53 := by kernel_rfl
theorem ok54 : cFunc Try.prog Try.f54 = some c54 := by kernel_rfl
theorem ok55 : cFunc Try.prog Try.f55 = some c55 := by kernel_rfl
theorem ok27 : cFunc Try.prog Try.f27 = some c27 := by kernel_rfl
theorem ok25 : cFunc Try.prog Try.f25 = some c25 := by kernel_rfl
theorem ok26 : cFunc Try.prog Try.f26 = some c26 := by kernel_rfl
theorem ok7 : cFunc Try.prog Try.f7 = some c7 := by kernel_rfl
theorem ok56 : cFunc Try.prog Try.f56 = some c56 := by kernel_rfl
theorem ok28 : cFunc Try.prog Try.f28 = some c28 := by kernel_rfl
theorem ok58 : cFunc Try.prog Try.f58 = some c58 := by kernel_rfl
theorem ok59 : cFunc Try.prog Try.f59 = some c59 := by kernel_rfl
end Go.Proofs.Ytehgapcmngdcnaa.CodeAll
