/- The code of functions of the program, for the abstract machine; each is what the function is turned into. No condition. -/
import Derived.Test.YtaekgifbehoipaaEvaO
import Derived.Test.YtaekgifbehoipaaChecked
import Derived.KernelRfl
namespace Go.Proofs.Ytaekgifbehoipaa.CodeAll
open Go Go.Proofs.Ytaekgifbehoipaa.Eva
/-- skyway/radar.CheckPlot -/
def c35 : CF where
  np := 1
  nt := 61
  res := [.t 2]
  code := .seq (.reg [
      ⟨(some 1), .box (.t 0), none, [], false⟩,
      ⟨(some 2), .mv (.k (.int .i64 0)), none, [], false⟩])
    (.seq (.seq (.reg [
        ⟨(some 3), .fad 0 (.t 1), none, [], false⟩,
        ⟨(some 4), .ld1 (.t 3), none, [], false⟩,
        ⟨(some 5), .bin .lss (.t 4) (.k (.int .i64 0)), none, [], false⟩,
        ⟨(some 6), .mv (.t 5), none, [], false⟩,
        ⟨(some 7), .fad 0 (.t 1), (some (6, false)), [], false⟩,
        ⟨(some 8), .ld1 (.t 7), (some (6, false)), [], false⟩,
        ⟨(some 9), .bin .gtr (.t 8) (.k (.int .i64 255)), (some (6, false)), [], false⟩,
        ⟨(some 10), .pick (.t 6) (.k (.bool true)) (.t 9), none, [], false⟩,
        ⟨(some 11), .mv (.t 10), none, [], false⟩,
        ⟨(some 12), .fad 1 (.t 1), (some (11, false)), [], false⟩,
        ⟨(some 13), .ld1 (.t 12), (some (11, false)), [], false⟩,
        ⟨(some 14), .bin .lss (.t 13) (.k (.int .i64 0)), (some (11, false)), [], false⟩,
        ⟨(some 15), .pick (.t 11) (.k (.bool true)) (.t 14), none, [], false⟩,
        ⟨(some 16), .mv (.t 15), none, [], false⟩,
        ⟨(some 17), .fad 1 (.t 1), (some (16, false)), [], false⟩,
        ⟨(some 18), .ld1 (.t 17), (some (16, false)), [], false⟩,
        ⟨(some 19), .bin .gtr (.t 18) (.k (.int .i64 200000)), (some (16, false)), [], false⟩,
        ⟨(some 20), .pick (.t 16) (.k (.bool true)) (.t 19), none, [], false⟩,
        ⟨(some 21), .mv (.t 20), none, [], false⟩,
        ⟨(some 22), .fad 2 (.t 1), (some (21, false)), [], false⟩,
        ⟨(some 23), .ld1 (.t 22), (some (21, false)), [], false⟩,
        ⟨(some 24), .bin .lss (.t 23) (.k (.int .i64 0)), (some (21, false)), [], false⟩,
        ⟨(some 25), .pick (.t 21) (.k (.bool true)) (.t 24), none, [], false⟩,
        ⟨(some 26), .mv (.t 25), none, [], false⟩,
        ⟨(some 27), .fad 2 (.t 1), (some (26, false)), [], false⟩,
        ⟨(some 28), .ld1 (.t 27), (some (26, false)), [], false⟩,
        ⟨(some 29), .bin .gtr (.t 28) (.k (.int .i64 2000000)), (some (26, false)), [], false⟩,
        ⟨(some 30), .pick (.t 26) (.k (.bool true)) (.t 29), none, [], false⟩,
        ⟨(some 31), .mv (.t 30), none, [], false⟩,
        ⟨(some 32), .fad 3 (.t 1), (some (31, false)), [], false⟩,
        ⟨(some 33), .ld1 (.t 32), (some (31, false)), [], false⟩,
        ⟨(some 34), .bin .lss (.t 33) (.k (.int .i64 0)), (some (31, false)), [], false⟩,
        ⟨(some 35), .pick (.t 31) (.k (.bool true)) (.t 34), none, [], false⟩,
        ⟨(some 36), .mv (.t 35), none, [], false⟩,
        ⟨(some 37), .fad 3 (.t 1), (some (36, false)), [], false⟩,
        ⟨(some 38), .ld1 (.t 37), (some (36, false)), [], false⟩,
        ⟨(some 39), .bin .gtr (.t 38) (.k (.int .i64 4095)), (some (36, false)), [], false⟩,
        ⟨(some 40), .pick (.t 36) (.k (.bool true)) (.t 39), none, [], false⟩,
        ⟨(some 41), .mv (.t 40), none, [], false⟩,
        ⟨(some 42), .fad 4 (.t 1), (some (41, false)), [], false⟩,
        ⟨(some 43), .ld1 (.t 42), (some (41, false)), [], false⟩,
        ⟨(some 44), .bin .lss (.t 43) (.k (.int .i64 0)), (some (41, false)), [], false⟩,
        ⟨(some 45), .pick (.t 41) (.k (.bool true)) (.t 44), none, [], false⟩,
        ⟨(some 46), .mv (.t 45), none, [], false⟩,
        ⟨(some 47), .fad 4 (.t 1), (some (46, false)), [], false⟩,
        ⟨(some 48), .ld1 (.t 47), (some (46, false)), [], false⟩,
        ⟨(some 49), .bin .gtr (.t 48) (.k (.int .i64 60000)), (some (46, false)), [], false⟩,
        ⟨(some 50), .pick (.t 46) (.k (.bool true)) (.t 49), none, [], false⟩,
        ⟨(some 51), .mv (.t 50), none, [], false⟩,
        ⟨(some 52), .fad 5 (.t 1), (some (51, false)), [], false⟩,
        ⟨(some 53), .ld1 (.t 52), (some (51, false)), [], false⟩,
        ⟨(some 54), .bin .lss (.t 53) (.k (.int .i64 (-1))), (some (51, false)), [], false⟩,
        ⟨(some 55), .pick (.t 51) (.k (.bool true)) (.t 54), none, [], false⟩,
        ⟨(some 56), .mv (.t 55), none, [], false⟩,
        ⟨(some 57), .fad 5 (.t 1), (some (56, false)), [], false⟩,
        ⟨(some 58), .ld1 (.t 57), (some (56, false)), [], false⟩,
        ⟨(some 59), .bin .gtr (.t 58) (.k (.int .i64 4095)), (some (56, false)), [], false⟩,
        ⟨(some 60), .pick (.t 56) (.k (.bool true)) (.t 59), none, [], false⟩])
      (.cond (.t 60) (.seq (.reg [
          ⟨(some 2), .mv (.k (.int .i64 4)), none, [], false⟩])
        (.ret))
       (.skip)))
     (.seq (.reg [
        ⟨(some 2), .mv (.k (.int .i64 0)), none, [], false⟩])
      (.ret)))
/-- math/bits.Len32 -/
def c132 : CF where
  np := 1
  nt := 19
  res := [.t 2]
  code := .seq (.reg [
      ⟨(some 2), .mv (.k (.int .i64 0)), none, [], false⟩])
    (.seq (.seq (.reg [
        ⟨(some 3), .mv (.t 0), none, [], false⟩,
        ⟨(some 4), .bin .geq (.t 3) (.k (.int .u32 65536)), none, [], false⟩])
      (.cond (.t 4) (.seq (.reg [
          ⟨(some 5), .mv (.t 0), none, [], false⟩,
          ⟨(some 6), .bin .shr (.t 5) (.k (.int .u64 16)), none, [], false⟩,
          ⟨(some 0), .mv (.t 6), none, [], false⟩])
        (.reg [
          ⟨(some 2), .mv (.k (.int .i64 16)), none, [], false⟩]))
       (.skip)))
     (.seq (.seq (.reg [
         ⟨(some 7), .mv (.t 0), none, [], false⟩,
         ⟨(some 8), .bin .geq (.t 7) (.k (.int .u32 256)), none, [], false⟩])
       (.cond (.t 8) (.seq (.reg [
           ⟨(some 9), .mv (.t 0), none, [], false⟩,
           ⟨(some 10), .bin .shr (.t 9) (.k (.int .u64 8)), none, [], false⟩,
           ⟨(some 0), .mv (.t 10), none, [], false⟩])
         (.reg [
           ⟨(some 11), .mv (.t 2), none, [], false⟩,
           ⟨(some 12), .bin .add (.t 11) (.k (.int .i64 8)), none, [], false⟩,
           ⟨(some 2), .mv (.t 12), none, [], false⟩]))
        (.skip)))
      (.seq (.reg [
         ⟨(some 13), .mv (.t 2), none, [], false⟩,
         ⟨(some 14), .mv (.t 0), none, [], false⟩,
         ⟨(some 15), .cvi .u8 (.t 14), none, [], false⟩,
         ⟨(some 16), .ixs (.k (.str ⟨#[0, 1, 2, 2, 3, 3, 3, 3, 4, 4, 4, 4, 4, 4, 4, 4, 5, 5, 5, 5, 5, 5, 5, 5, 5, 5, 5, 5, 5, 5, 5, 5, 6, 6, 6, 6, 6, 6, 6, 6, 6, 6, 6, 6, 6, 6, 6, 6, 6, 6, 6, 6, 6, 6, 6, 6, 6, 6, 6, 6, 6, 6, 6, 6, 7, 7, 7, 7, 7, 7, 7, 7, 7, 7, 7, 7, 7, 7, 7, 7, 7, 7, 7, 7, 7, 7, 7, 7, 7, 7, 7, 7, 7, 7, 7, 7, 7, 7, 7, 7, 7, 7, 7, 7, 7, 7, 7, 7, 7, 7, 7, 7, 7, 7, 7, 7, 7, 7, 7, 7, 7, 7, 7, 7, 7, 7, 7, 7, 8, 8, 8, 8, 8, 8, 8, 8, 8, 8, 8, 8, 8, 8, 8, 8, 8, 8, 8, 8, 8, 8, 8, 8, 8, 8, 8, 8, 8, 8, 8, 8, 8, 8, 8, 8, 8, 8, 8, 8, 8, 8, 8, 8, 8, 8, 8, 8, 8, 8, 8, 8, 8, 8, 8, 8, 8, 8, 8, 8, 8, 8, 8, 8, 8, 8, 8, 8, 8, 8, 8, 8, 8, 8, 8, 8, 8, 8, 8, 8, 8, 8, 8, 8, 8, 8, 8, 8, 8, 8, 8, 8, 8, 8, 8, 8, 8, 8, 8, 8, 8, 8, 8, 8, 8, 8, 8, 8, 8, 8, 8, 8, 8, 8, 8, 8, 8, 8, 8, 8, 8, 8, 8, 8, 8, 8, 8, 8]⟩)) (.t 15), none, [], false⟩,
         ⟨(some 17), .cvi .i64 (.t 16), none, [], false⟩,
         ⟨(some 18), .bin .add (.t 13) (.t 17), none, [], false⟩,
         ⟨(some 2), .mv (.t 18), none, [], false⟩])
       (.ret))))
/-- math/bits.Len64 -/
def c118 : CF where
  np := 1
  nt := 25
  res := [.t 2]
  code := .seq (.reg [
      ⟨(some 2), .mv (.k (.int .i64 0)), none, [], false⟩])
    (.seq (.seq (.reg [
        ⟨(some 3), .mv (.t 0), none, [], false⟩,
        ⟨(some 4), .bin .geq (.t 3) (.k (.int .u64 4294967296)), none, [], false⟩])
      (.cond (.t 4) (.seq (.reg [
          ⟨(some 5), .mv (.t 0), none, [], false⟩,
          ⟨(some 6), .bin .shr (.t 5) (.k (.int .u64 32)), none, [], false⟩,
          ⟨(some 0), .mv (.t 6), none, [], false⟩])
        (.reg [
          ⟨(some 2), .mv (.k (.int .i64 32)), none, [], false⟩]))
       (.skip)))
     (.seq (.seq (.reg [
         ⟨(some 7), .mv (.t 0), none, [], false⟩,
         ⟨(some 8), .bin .geq (.t 7) (.k (.int .u64 65536)), none, [], false⟩])
       (.cond (.t 8) (.seq (.reg [
           ⟨(some 9), .mv (.t 0), none, [], false⟩,
           ⟨(some 10), .bin .shr (.t 9) (.k (.int .u64 16)), none, [], false⟩,
           ⟨(some 0), .mv (.t 10), none, [], false⟩])
         (.reg [
           ⟨(some 11), .mv (.t 2), none, [], false⟩,
           ⟨(some 12), .bin .add (.t 11) (.k (.int .i64 16)), none, [], false⟩,
           ⟨(some 2), .mv (.t 12), none, [], false⟩]))
        (.skip)))
      (.seq (.seq (.reg [
          ⟨(some 13), .mv (.t 0), none, [], false⟩,
          ⟨(some 14), .bin .geq (.t 13) (.k (.int .u64 256)), none, [], false⟩])
        (.cond (.t 14) (.seq (.reg [
            ⟨(some 15), .mv (.t 0), none, [], false⟩,
            ⟨(some 16), .bin .shr (.t 15) (.k (.int .u64 8)), none, [], false⟩,
            ⟨(some 0), .mv (.t 16), none, [], false⟩])
          (.reg [
            ⟨(some 17), .mv (.t 2), none, [], false⟩,
            ⟨(some 18), .bin .add (.t 17) (.k (.int .i64 8)), none, [], false⟩,
            ⟨(some 2), .mv (.t 18), none, [], false⟩]))
         (.skip)))
       (.seq (.reg [
          ⟨(some 19), .mv (.t 2), none, [], false⟩,
          ⟨(some 20), .mv (.t 0), none, [], false⟩,
          ⟨(some 21), .cvi .u8 (.t 20), none, [], false⟩,
          ⟨(some 22), .ixs (.k (.str ⟨#[0, 1, 2, 2, 3, 3, 3, 3, 4, 4, 4, 4, 4, 4, 4, 4, 5, 5, 5, 5, 5, 5, 5, 5, 5, 5, 5, 5, 5, 5, 5, 5, 6, 6, 6, 6, 6, 6, 6, 6, 6, 6, 6, 6, 6, 6, 6, 6, 6, 6, 6, 6, 6, 6, 6, 6, 6, 6, 6, 6, 6, 6, 6, 6, 7, 7, 7, 7, 7, 7, 7, 7, 7, 7, 7, 7, 7, 7, 7, 7, 7, 7, 7, 7, 7, 7, 7, 7, 7, 7, 7, 7, 7, 7, 7, 7, 7, 7, 7, 7, 7, 7, 7, 7, 7, 7, 7, 7, 7, 7, 7, 7, 7, 7, 7, 7, 7, 7, 7, 7, 7, 7, 7, 7, 7, 7, 7, 7, 8, 8, 8, 8, 8, 8, 8, 8, 8, 8, 8, 8, 8, 8, 8, 8, 8, 8, 8, 8, 8, 8, 8, 8, 8, 8, 8, 8, 8, 8, 8, 8, 8, 8, 8, 8, 8, 8, 8, 8, 8, 8, 8, 8, 8, 8, 8, 8, 8, 8, 8, 8, 8, 8, 8, 8, 8, 8, 8, 8, 8, 8, 8, 8, 8, 8, 8, 8, 8, 8, 8, 8, 8, 8, 8, 8, 8, 8, 8, 8, 8, 8, 8, 8, 8, 8, 8, 8, 8, 8, 8, 8, 8, 8, 8, 8, 8, 8, 8, 8, 8, 8, 8, 8, 8, 8, 8, 8, 8, 8, 8, 8, 8, 8, 8, 8, 8, 8, 8, 8, 8, 8, 8, 8, 8, 8, 8, 8]⟩)) (.t 21), none, [], false⟩,
          ⟨(some 23), .cvi .i64 (.t 22), none, [], false⟩,
          ⟨(some 24), .bin .add (.t 19) (.t 23), none, [], false⟩,
          ⟨(some 2), .mv (.t 24), none, [], false⟩])
        (.ret)))))
/-- math/bits.Len -/
def c109 : CF where
  np := 1
  nt := 8
  res := [.t 2]
  code := .seq (.reg [
      ⟨(some 2), .mv (.k (.int .i64 0)), none, [], false⟩])
    (.seq (.cond (.k (.bool false)) (.seq (.reg [
         ⟨(some 3), .mv (.t 0), none, [], false⟩,
         ⟨(some 4), .cvi .u32 (.t 3), none, [], false⟩,
         ⟨(some 5), .call (.k (.fn 132 [])) [(.t 4)], none, [], false⟩,
         ⟨(some 2), .mv (.t 5), none, [], false⟩])
       (.ret))
      (.skip))
     (.seq (.reg [
        ⟨(some 6), .mv (.t 0), none, [], false⟩,
        ⟨(some 7), .call (.k (.fn 118 [])) [(.t 6)], none, [], false⟩,
        ⟨(some 2), .mv (.t 7), none, [], false⟩])
      (.ret)))
/-- slices.insertionSortCmpFunc[skyway/api.Plot] -/
def c133 : CF where
  np := 4
  nt := 53
  res := []
  code := .seq (.reg [
      ⟨(some 10), .mv (.t 1), none, [], false⟩,
      ⟨(some 11), .bin .add (.t 10) (.k (.int .i64 1)), none, [], false⟩,
      ⟨(some 8), .mv (.t 11), none, [], false⟩])
    (.blk 0 (.loop (.seq (.seq (.reg [
          ⟨(some 12), .mv (.t 8), none, [], false⟩,
          ⟨(some 13), .mv (.t 2), none, [], false⟩,
          ⟨(some 14), .bin .lss (.t 12) (.t 13), none, [], false⟩])
        (.cond (.t 14) (.skip)
         (.exit 0)))
       (.seq (.blk 1 (.seq (.reg [
            ⟨(some 17), .mv (.t 8), none, [], false⟩,
            ⟨(some 9), .mv (.t 17), none, [], false⟩])
          (.blk 2 (.loop (.seq (.seq (.reg [
                ⟨(some 18), .mv (.t 9), none, [], false⟩,
                ⟨(some 19), .mv (.t 1), none, [], false⟩,
                ⟨(some 20), .bin .gtr (.t 18) (.t 19), none, [], false⟩,
                ⟨(some 21), .mv (.t 20), none, [], false⟩,
                ⟨(some 22), .mv (.t 3), (some (21, true)), [], false⟩,
                ⟨(some 23), .mv (.t 0), (some (21, true)), [], false⟩,
                ⟨(some 24), .mv (.t 9), (some (21, true)), [], false⟩,
                ⟨(some 25), .iad 6 (.t 23) (.t 24), (some (21, true)), [], false⟩,
                ⟨(some 26), .ldn 6 (.t 25), (some (21, true)), [], false⟩,
                ⟨(some 27), .mv (.t 0), (some (21, true)), [], false⟩,
                ⟨(some 28), .mv (.t 9), (some (21, true)), [], false⟩,
                ⟨(some 29), .bin .sub (.t 28) (.k (.int .i64 1)), (some (21, true)), [], false⟩,
                ⟨(some 30), .iad 6 (.t 27) (.t 29), (some (21, true)), [], false⟩,
                ⟨(some 31), .ldn 6 (.t 30), (some (21, true)), [], false⟩,
                ⟨(some 32), .call (.t 22) [(.t 26), (.t 31)], (some (21, true)), [], false⟩,
                ⟨(some 33), .bin .lss (.t 32) (.k (.int .i64 0)), (some (21, true)), [], false⟩,
                ⟨(some 34), .pick (.t 21) (.t 33) (.k (.bool false)), none, [], false⟩])
              (.cond (.t 34) (.skip)
               (.exit 2)))
             (.seq (.blk 3 (.reg [
                 ⟨(some 37), .mv (.t 0), none, [], false⟩,
                 ⟨(some 38), .mv (.t 9), none, [], false⟩,
                 ⟨(some 39), .mv (.t 0), none, [], false⟩,
                 ⟨(some 40), .mv (.t 9), none, [], false⟩,
                 ⟨(some 41), .bin .sub (.t 40) (.k (.int .i64 1)), none, [], false⟩,
                 ⟨(some 42), .mv (.t 0), none, [], false⟩,
                 ⟨(some 43), .mv (.t 9), none, [], false⟩,
                 ⟨(some 44), .bin .sub (.t 43) (.k (.int .i64 1)), none, [], false⟩,
                 ⟨(some 45), .iad 6 (.t 42) (.t 44), none, [], false⟩,
                 ⟨(some 46), .ldn 6 (.t 45), none, [], false⟩,
                 ⟨(some 47), .mv (.t 0), none, [], false⟩,
                 ⟨(some 48), .mv (.t 9), none, [], false⟩,
                 ⟨(some 49), .iad 6 (.t 47) (.t 48), none, [], false⟩,
                 ⟨(some 50), .ldn 6 (.t 49), none, [], false⟩,
                 ⟨(some 51), .iad 6 (.t 37) (.t 38), none, [], false⟩,
                 ⟨none, .st 6 (.t 51) (.t 46), none, [], false⟩,
                 ⟨(some 52), .iad 6 (.t 39) (.t 41), none, [], false⟩,
                 ⟨none, .st 6 (.t 52) (.t 50), none, [], false⟩]))
              (.reg [
                ⟨(some 35), .mv (.t 9), none, [], false⟩,
                ⟨(some 36), .bin .sub (.t 35) (.k (.int .i64 1)), none, [], false⟩,
                ⟨(some 9), .mv (.t 36), none, [], false⟩])))))))
        (.reg [
          ⟨(some 15), .mv (.t 8), none, [], false⟩,
          ⟨(some 16), .bin .add (.t 15) (.k (.int .i64 1)), none, [], false⟩,
          ⟨(some 8), .mv (.t 16), none, [], false⟩])))))
/-- slices.siftDownCmpFunc[skyway/api.Plot] -/
def c161 : CF where
  np := 5
  nt := 82
  res := []
  code := .seq (.reg [
      ⟨(some 12), .mv (.t 1), none, [], false⟩,
      ⟨(some 10), .mv (.t 12), none, [], false⟩])
    (.blk 0 (.loop (.blk 1 (.seq (.reg [
          ⟨(some 13), .mv (.t 10), none, [], false⟩,
          ⟨(some 14), .bin .mul (.k (.int .i64 2)) (.t 13), none, [], false⟩,
          ⟨(some 15), .bin .add (.t 14) (.k (.int .i64 1)), none, [], false⟩,
          ⟨(some 11), .mv (.t 15), none, [], false⟩])
        (.seq (.seq (.reg [
            ⟨(some 16), .mv (.t 11), none, [], false⟩,
            ⟨(some 17), .mv (.t 2), none, [], false⟩,
            ⟨(some 18), .bin .geq (.t 16) (.t 17), none, [], false⟩])
          (.cond (.t 18) (.exit 0)
           (.skip)))
         (.seq (.seq (.reg [
             ⟨(some 19), .mv (.t 11), none, [], false⟩,
             ⟨(some 20), .bin .add (.t 19) (.k (.int .i64 1)), none, [], false⟩,
             ⟨(some 21), .mv (.t 2), none, [], false⟩,
             ⟨(some 22), .bin .lss (.t 20) (.t 21), none, [], false⟩,
             ⟨(some 23), .mv (.t 22), none, [], false⟩,
             ⟨(some 24), .mv (.t 4), (some (23, true)), [], false⟩,
             ⟨(some 25), .mv (.t 0), (some (23, true)), [], false⟩,
             ⟨(some 26), .mv (.t 3), (some (23, true)), [], false⟩,
             ⟨(some 27), .mv (.t 11), (some (23, true)), [], false⟩,
             ⟨(some 28), .bin .add (.t 26) (.t 27), (some (23, true)), [], false⟩,
             ⟨(some 29), .iad 6 (.t 25) (.t 28), (some (23, true)), [], false⟩,
             ⟨(some 30), .ldn 6 (.t 29), (some (23, true)), [], false⟩,
             ⟨(some 31), .mv (.t 0), (some (23, true)), [], false⟩,
             ⟨(some 32), .mv (.t 3), (some (23, true)), [], false⟩,
             ⟨(some 33), .mv (.t 11), (some (23, true)), [], false⟩,
             ⟨(some 34), .bin .add (.t 32) (.t 33), (some (23, true)), [], false⟩,
             ⟨(some 35), .bin .add (.t 34) (.k (.int .i64 1)), (some (23, true)), [], false⟩,
             ⟨(some 36), .iad 6 (.t 31) (.t 35), (some (23, true)), [], false⟩,
             ⟨(some 37), .ldn 6 (.t 36), (some (23, true)), [], false⟩,
             ⟨(some 38), .call (.t 24) [(.t 30), (.t 37)], (some (23, true)), [], false⟩,
             ⟨(some 39), .bin .lss (.t 38) (.k (.int .i64 0)), (some (23, true)), [], false⟩,
             ⟨(some 40), .pick (.t 23) (.t 39) (.k (.bool false)), none, [], false⟩])
           (.cond (.t 40) (.reg [
              ⟨(some 41), .mv (.t 11), none, [], false⟩,
              ⟨(some 42), .bin .add (.t 41) (.k (.int .i64 1)), none, [], false⟩,
              ⟨(some 11), .mv (.t 42), none, [], false⟩])
            (.skip)))
          (.seq (.seq (.reg [
              ⟨(some 43), .mv (.t 4), none, [], false⟩,
              ⟨(some 44), .mv (.t 0), none, [], false⟩,
              ⟨(some 45), .mv (.t 3), none, [], false⟩,
              ⟨(some 46), .mv (.t 10), none, [], false⟩,
              ⟨(some 47), .bin .add (.t 45) (.t 46), none, [], false⟩,
              ⟨(some 48), .iad 6 (.t 44) (.t 47), none, [], false⟩,
              ⟨(some 49), .ldn 6 (.t 48), none, [], false⟩,
              ⟨(some 50), .mv (.t 0), none, [], false⟩,
              ⟨(some 51), .mv (.t 3), none, [], false⟩,
              ⟨(some 52), .mv (.t 11), none, [], false⟩,
              ⟨(some 53), .bin .add (.t 51) (.t 52), none, [], false⟩,
              ⟨(some 54), .iad 6 (.t 50) (.t 53), none, [], false⟩,
              ⟨(some 55), .ldn 6 (.t 54), none, [], false⟩,
              ⟨(some 56), .call (.t 43) [(.t 49), (.t 55)], none, [], false⟩,
              ⟨(some 57), .bin .lss (.t 56) (.k (.int .i64 0)), none, [], false⟩,
              ⟨(some 58), .un .not (.t 57), none, [], false⟩])
            (.cond (.t 58) (.ret)
             (.skip)))
           (.seq (.reg [
              ⟨(some 59), .mv (.t 0), none, [], false⟩,
              ⟨(some 60), .mv (.t 3), none, [], false⟩,
              ⟨(some 61), .mv (.t 10), none, [], false⟩,
              ⟨(some 62), .bin .add (.t 60) (.t 61), none, [], false⟩,
              ⟨(some 63), .mv (.t 0), none, [], false⟩,
              ⟨(some 64), .mv (.t 3), none, [], false⟩,
              ⟨(some 65), .mv (.t 11), none, [], false⟩,
              ⟨(some 66), .bin .add (.t 64) (.t 65), none, [], false⟩,
              ⟨(some 67), .mv (.t 0), none, [], false⟩,
              ⟨(some 68), .mv (.t 3), none, [], false⟩,
              ⟨(some 69), .mv (.t 11), none, [], false⟩,
              ⟨(some 70), .bin .add (.t 68) (.t 69), none, [], false⟩,
              ⟨(some 71), .iad 6 (.t 67) (.t 70), none, [], false⟩,
              ⟨(some 72), .ldn 6 (.t 71), none, [], false⟩,
              ⟨(some 73), .mv (.t 0), none, [], false⟩,
              ⟨(some 74), .mv (.t 3), none, [], false⟩,
              ⟨(some 75), .mv (.t 10), none, [], false⟩,
              ⟨(some 76), .bin .add (.t 74) (.t 75), none, [], false⟩,
              ⟨(some 77), .iad 6 (.t 73) (.t 76), none, [], false⟩,
              ⟨(some 78), .ldn 6 (.t 77), none, [], false⟩,
              ⟨(some 79), .iad 6 (.t 59) (.t 62), none, [], false⟩,
              ⟨none, .st 6 (.t 79) (.t 72), none, [], false⟩,
              ⟨(some 80), .iad 6 (.t 63) (.t 66), none, [], false⟩,
              ⟨none, .st 6 (.t 80) (.t 78), none, [], false⟩])
            (.reg [
              ⟨(some 81), .mv (.t 11), none, [], false⟩,
              ⟨(some 10), .mv (.t 81), none, [], false⟩])))))))))
/-- slices.heapSortCmpFunc[skyway/api.Plot] -/
def c134 : CF where
  np := 4
  nt := 60
  res := []
  code := .seq (.reg [
      ⟨(some 13), .mv (.t 1), none, [], false⟩,
      ⟨(some 8), .mv (.t 13), none, [], false⟩])
    (.seq (.reg [
       ⟨(some 9), .mv (.k (.int .i64 0)), none, [], false⟩])
     (.seq (.reg [
        ⟨(some 14), .mv (.t 2), none, [], false⟩,
        ⟨(some 15), .mv (.t 1), none, [], false⟩,
        ⟨(some 16), .bin .sub (.t 14) (.t 15), none, [], false⟩,
        ⟨(some 10), .mv (.t 16), none, [], false⟩])
      (.seq (.seq (.reg [
          ⟨(some 17), .mv (.t 10), none, [], false⟩,
          ⟨(some 18), .bin .sub (.t 17) (.k (.int .i64 1)), none, [], false⟩,
          ⟨(some 19), .bin .quo (.t 18) (.k (.int .i64 2)), none, [], false⟩,
          ⟨(some 11), .mv (.t 19), none, [], false⟩])
        (.blk 0 (.loop (.seq (.seq (.reg [
              ⟨(some 20), .mv (.t 11), none, [], false⟩,
              ⟨(some 21), .bin .geq (.t 20) (.k (.int .i64 0)), none, [], false⟩])
            (.cond (.t 21) (.skip)
             (.exit 0)))
           (.seq (.blk 1 (.reg [
               ⟨(some 24), .mv (.t 0), none, [], false⟩,
               ⟨(some 25), .mv (.t 11), none, [], false⟩,
               ⟨(some 26), .mv (.t 10), none, [], false⟩,
               ⟨(some 27), .mv (.t 8), none, [], false⟩,
               ⟨(some 28), .mv (.t 3), none, [], false⟩,
               ⟨(some 29), .call (.k (.fn 161 [])) [(.t 24), (.t 25), (.t 26), (.t 27), (.t 28)], none, [], false⟩]))
            (.reg [
              ⟨(some 22), .mv (.t 11), none, [], false⟩,
              ⟨(some 23), .bin .sub (.t 22) (.k (.int .i64 1)), none, [], false⟩,
              ⟨(some 11), .mv (.t 23), none, [], false⟩]))))))
       (.seq (.reg [
          ⟨(some 30), .mv (.t 10), none, [], false⟩,
          ⟨(some 31), .bin .sub (.t 30) (.k (.int .i64 1)), none, [], false⟩,
          ⟨(some 12), .mv (.t 31), none, [], false⟩])
        (.blk 2 (.loop (.seq (.seq (.reg [
              ⟨(some 32), .mv (.t 12), none, [], false⟩,
              ⟨(some 33), .bin .geq (.t 32) (.k (.int .i64 0)), none, [], false⟩])
            (.cond (.t 33) (.skip)
             (.exit 2)))
           (.seq (.blk 3 (.seq (.reg [
                ⟨(some 36), .mv (.t 0), none, [], false⟩,
                ⟨(some 37), .mv (.t 8), none, [], false⟩,
                ⟨(some 38), .mv (.t 0), none, [], false⟩,
                ⟨(some 39), .mv (.t 8), none, [], false⟩,
                ⟨(some 40), .mv (.t 12), none, [], false⟩,
                ⟨(some 41), .bin .add (.t 39) (.t 40), none, [], false⟩,
                ⟨(some 42), .mv (.t 0), none, [], false⟩,
                ⟨(some 43), .mv (.t 8), none, [], false⟩,
                ⟨(some 44), .mv (.t 12), none, [], false⟩,
                ⟨(some 45), .bin .add (.t 43) (.t 44), none, [], false⟩,
                ⟨(some 46), .iad 6 (.t 42) (.t 45), none, [], false⟩,
                ⟨(some 47), .ldn 6 (.t 46), none, [], false⟩,
                ⟨(some 48), .mv (.t 0), none, [], false⟩,
                ⟨(some 49), .mv (.t 8), none, [], false⟩,
                ⟨(some 50), .iad 6 (.t 48) (.t 49), none, [], false⟩,
                ⟨(some 51), .ldn 6 (.t 50), none, [], false⟩,
                ⟨(some 52), .iad 6 (.t 36) (.t 37), none, [], false⟩,
                ⟨none, .st 6 (.t 52) (.t 47), none, [], false⟩,
                ⟨(some 53), .iad 6 (.t 38) (.t 41), none, [], false⟩,
                ⟨none, .st 6 (.t 53) (.t 51), none, [], false⟩])
              (.reg [
                ⟨(some 54), .mv (.t 0), none, [], false⟩,
                ⟨(some 55), .mv (.t 9), none, [], false⟩,
                ⟨(some 56), .mv (.t 12), none, [], false⟩,
                ⟨(some 57), .mv (.t 8), none, [], false⟩,
                ⟨(some 58), .mv (.t 3), none, [], false⟩,
                ⟨(some 59), .call (.k (.fn 161 [])) [(.t 54), (.t 55), (.t 56), (.t 57), (.t 58)], none, [], false⟩])))
            (.reg [
              ⟨(some 34), .mv (.t 12), none, [], false⟩,
              ⟨(some 35), .bin .sub (.t 34) (.k (.int .i64 1)), none, [], false⟩,
              ⟨(some 12), .mv (.t 35), none, [], false⟩])))))))))
/-- slices.nextPowerOfTwo -/
def c157 : CF where
  np := 1
  nt := 7
  res := [.t 2]
  code := .seq (.reg [
      ⟨(some 2), .mv (.k (.int .u64 0)), none, [], false⟩])
    (.seq (.reg [
       ⟨(some 3), .mv (.t 0), none, [], false⟩,
       ⟨(some 4), .cvi .u64 (.t 3), none, [], false⟩,
       ⟨(some 5), .call (.k (.fn 109 [])) [(.t 4)], none, [], false⟩,
       ⟨(some 6), .bin .shl (.k (.int .u64 1)) (.t 5), none, [], false⟩,
       ⟨(some 2), .mv (.t 6), none, [], false⟩])
     (.ret))
/-- (*slices.xorshift).Next -/
def c158 : CF where
  np := 1
  nt := 33
  res := [.t 2]
  code := .seq (.reg [
      ⟨(some 2), .mv (.k (.int .u64 0)), none, [], false⟩])
    (.seq (.reg [
       ⟨(some 3), .mv (.t 0), none, [], false⟩,
       ⟨(some 4), .nchk (.t 3), none, [], false⟩,
       ⟨(some 5), .ld1 (.t 4), none, [], false⟩,
       ⟨(some 6), .mv (.t 0), none, [], false⟩,
       ⟨(some 7), .nchk (.t 6), none, [], false⟩,
       ⟨(some 8), .ld1 (.t 7), none, [], false⟩,
       ⟨(some 9), .bin .shl (.t 8) (.k (.int .u64 13)), none, [], false⟩,
       ⟨(some 10), .bin .xor (.t 5) (.t 9), none, [], false⟩,
       ⟨(some 11), .nchk (.t 3), none, [], false⟩,
       ⟨none, .st 1 (.t 11) (.t 10), none, [], false⟩])
     (.seq (.reg [
        ⟨(some 12), .mv (.t 0), none, [], false⟩,
        ⟨(some 13), .nchk (.t 12), none, [], false⟩,
        ⟨(some 14), .ld1 (.t 13), none, [], false⟩,
        ⟨(some 15), .mv (.t 0), none, [], false⟩,
        ⟨(some 16), .nchk (.t 15), none, [], false⟩,
        ⟨(some 17), .ld1 (.t 16), none, [], false⟩,
        ⟨(some 18), .bin .shr (.t 17) (.k (.int .u64 7)), none, [], false⟩,
        ⟨(some 19), .bin .xor (.t 14) (.t 18), none, [], false⟩,
        ⟨(some 20), .nchk (.t 12), none, [], false⟩,
        ⟨none, .st 1 (.t 20) (.t 19), none, [], false⟩])
      (.seq (.reg [
         ⟨(some 21), .mv (.t 0), none, [], false⟩,
         ⟨(some 22), .nchk (.t 21), none, [], false⟩,
         ⟨(some 23), .ld1 (.t 22), none, [], false⟩,
         ⟨(some 24), .mv (.t 0), none, [], false⟩,
         ⟨(some 25), .nchk (.t 24), none, [], false⟩,
         ⟨(some 26), .ld1 (.t 25), none, [], false⟩,
         ⟨(some 27), .bin .shl (.t 26) (.k (.int .u64 17)), none, [], false⟩,
         ⟨(some 28), .bin .xor (.t 23) (.t 27), none, [], false⟩,
         ⟨(some 29), .nchk (.t 21), none, [], false⟩,
         ⟨none, .st 1 (.t 29) (.t 28), none, [], false⟩])
       (.seq (.reg [
          ⟨(some 30), .mv (.t 0), none, [], false⟩,
          ⟨(some 31), .nchk (.t 30), none, [], false⟩,
          ⟨(some 32), .ld1 (.t 31), none, [], false⟩,
          ⟨(some 2), .mv (.t 32), none, [], false⟩])
        (.ret)))))
/-- slices.breakPatternsCmpFunc[skyway/api.Plot] -/
def c135 : CF where
  np := 4
  nt := 67
  res := []
  code := .seq (.reg [
      ⟨(some 13), .mv (.t 2), none, [], false⟩,
      ⟨(some 14), .mv (.t 1), none, [], false⟩,
      ⟨(some 15), .bin .sub (.t 13) (.t 14), none, [], false⟩,
      ⟨(some 8), .mv (.t 15), none, [], false⟩])
    (.seq (.reg [
       ⟨(some 16), .mv (.t 8), none, [], false⟩,
       ⟨(some 17), .bin .geq (.t 16) (.k (.int .i64 8)), none, [], false⟩])
     (.cond (.t 17) (.seq (.reg [
         ⟨(some 18), .mv (.t 8), none, [], false⟩,
         ⟨(some 19), .cvi .u64 (.t 18), none, [], false⟩,
         ⟨(some 9), .new [.int .u64 0], none, [], false⟩,
         ⟨none, .st 1 (.t 9) (.t 19), none, [], false⟩])
       (.seq (.reg [
          ⟨(some 20), .mv (.t 8), none, [], false⟩,
          ⟨(some 21), .call (.k (.fn 157 [])) [(.t 20)], none, [], false⟩,
          ⟨(some 10), .mv (.t 21), none, [], false⟩])
        (.seq (.reg [
           ⟨(some 22), .mv (.t 1), none, [], false⟩,
           ⟨(some 23), .mv (.t 8), none, [], false⟩,
           ⟨(some 24), .bin .quo (.t 23) (.k (.int .i64 4)), none, [], false⟩,
           ⟨(some 25), .bin .mul (.t 24) (.k (.int .i64 2)), none, [], false⟩,
           ⟨(some 26), .bin .add (.t 22) (.t 25), none, [], false⟩,
           ⟨(some 27), .bin .sub (.t 26) (.k (.int .i64 1)), none, [], false⟩,
           ⟨(some 11), .mv (.t 27), none, [], false⟩])
         (.blk 0 (.loop (.seq (.seq (.reg [
               ⟨(some 28), .mv (.t 11), none, [], false⟩,
               ⟨(some 29), .mv (.t 1), none, [], false⟩,
               ⟨(some 30), .mv (.t 8), none, [], false⟩,
               ⟨(some 31), .bin .quo (.t 30) (.k (.int .i64 4)), none, [], false⟩,
               ⟨(some 32), .bin .mul (.t 31) (.k (.int .i64 2)), none, [], false⟩,
               ⟨(some 33), .bin .add (.t 29) (.t 32), none, [], false⟩,
               ⟨(some 34), .bin .add (.t 33) (.k (.int .i64 1)), none, [], false⟩,
               ⟨(some 35), .bin .leq (.t 28) (.t 34), none, [], false⟩])
             (.cond (.t 35) (.skip)
              (.exit 0)))
            (.seq (.blk 1 (.seq (.reg [
                 ⟨(some 38), .call (.k (.fn 158 [])) [(.t 9)], none, [], false⟩,
                 ⟨(some 39), .mv (.t 10), none, [], false⟩,
                 ⟨(some 40), .bin .sub (.t 39) (.k (.int .u64 1)), none, [], false⟩,
                 ⟨(some 41), .bin .and (.t 38) (.t 40), none, [], false⟩,
                 ⟨(some 42), .cvi .i64 (.t 41), none, [], false⟩,
                 ⟨(some 12), .mv (.t 42), none, [], false⟩])
               (.seq (.seq (.reg [
                   ⟨(some 43), .mv (.t 12), none, [], false⟩,
                   ⟨(some 44), .mv (.t 8), none, [], false⟩,
                   ⟨(some 45), .bin .geq (.t 43) (.t 44), none, [], false⟩])
                 (.cond (.t 45) (.reg [
                    ⟨(some 46), .mv (.t 12), none, [], false⟩,
                    ⟨(some 47), .mv (.t 8), none, [], false⟩,
                    ⟨(some 48), .bin .sub (.t 46) (.t 47), none, [], false⟩,
                    ⟨(some 12), .mv (.t 48), none, [], false⟩])
                  (.skip)))
                (.reg [
                  ⟨(some 49), .mv (.t 0), none, [], false⟩,
                  ⟨(some 50), .mv (.t 11), none, [], false⟩,
                  ⟨(some 51), .mv (.t 0), none, [], false⟩,
                  ⟨(some 52), .mv (.t 1), none, [], false⟩,
                  ⟨(some 53), .mv (.t 12), none, [], false⟩,
                  ⟨(some 54), .bin .add (.t 52) (.t 53), none, [], false⟩,
                  ⟨(some 55), .mv (.t 0), none, [], false⟩,
                  ⟨(some 56), .mv (.t 1), none, [], false⟩,
                  ⟨(some 57), .mv (.t 12), none, [], false⟩,
                  ⟨(some 58), .bin .add (.t 56) (.t 57), none, [], false⟩,
                  ⟨(some 59), .iad 6 (.t 55) (.t 58), none, [], false⟩,
                  ⟨(some 60), .ldn 6 (.t 59), none, [], false⟩,
                  ⟨(some 61), .mv (.t 0), none, [], false⟩,
                  ⟨(some 62), .mv (.t 11), none, [], false⟩,
                  ⟨(some 63), .iad 6 (.t 61) (.t 62), none, [], false⟩,
                  ⟨(some 64), .ldn 6 (.t 63), none, [], false⟩,
                  ⟨(some 65), .iad 6 (.t 49) (.t 50), none, [], false⟩,
                  ⟨none, .st 6 (.t 65) (.t 60), none, [], false⟩,
                  ⟨(some 66), .iad 6 (.t 51) (.t 54), none, [], false⟩,
                  ⟨none, .st 6 (.t 66) (.t 64), none, [], false⟩]))))
             (.reg [
               ⟨(some 36), .mv (.t 11), none, [], false⟩,
               ⟨(some 37), .bin .add (.t 36) (.k (.int .i64 1)), none, [], false⟩,
               ⟨(some 11), .mv (.t 37), none, [], false⟩]))))))))
      (.skip)))
/-- slices.order2CmpFunc[skyway/api.Plot] -/
def c171 : CF where
  np := 5
  nt := 32
  res := [.t 10, .t 11]
  code := .seq (.reg [
      ⟨(some 10), .mv (.k (.int .i64 0)), none, [], false⟩,
      ⟨(some 11), .mv (.k (.int .i64 0)), none, [], false⟩])
    (.seq (.seq (.reg [
        ⟨(some 12), .mv (.t 4), none, [], false⟩,
        ⟨(some 13), .mv (.t 0), none, [], false⟩,
        ⟨(some 14), .mv (.t 2), none, [], false⟩,
        ⟨(some 15), .iad 6 (.t 13) (.t 14), none, [], false⟩,
        ⟨(some 16), .ldn 6 (.t 15), none, [], false⟩,
        ⟨(some 17), .mv (.t 0), none, [], false⟩,
        ⟨(some 18), .mv (.t 1), none, [], false⟩,
        ⟨(some 19), .iad 6 (.t 17) (.t 18), none, [], false⟩,
        ⟨(some 20), .ldn 6 (.t 19), none, [], false⟩,
        ⟨(some 21), .call (.t 12) [(.t 16), (.t 20)], none, [], false⟩,
        ⟨(some 22), .bin .lss (.t 21) (.k (.int .i64 0)), none, [], false⟩])
      (.cond (.t 22) (.seq (.reg [
          ⟨(some 23), .mv (.t 3), none, [], false⟩,
          ⟨(some 24), .nchk (.t 23), none, [], false⟩,
          ⟨(some 25), .ld1 (.t 24), none, [], false⟩,
          ⟨(some 26), .bin .add (.t 25) (.k (.int .i64 1)), none, [], false⟩,
          ⟨(some 27), .nchk (.t 23), none, [], false⟩,
          ⟨none, .st 1 (.t 27) (.t 26), none, [], false⟩])
        (.seq (.reg [
           ⟨(some 28), .mv (.t 2), none, [], false⟩,
           ⟨(some 29), .mv (.t 1), none, [], false⟩,
           ⟨(some 10), .mv (.t 28), none, [], false⟩,
           ⟨(some 11), .mv (.t 29), none, [], false⟩])
         (.ret)))
       (.skip)))
     (.seq (.reg [
        ⟨(some 30), .mv (.t 1), none, [], false⟩,
        ⟨(some 31), .mv (.t 2), none, [], false⟩,
        ⟨(some 10), .mv (.t 30), none, [], false⟩,
        ⟨(some 11), .mv (.t 31), none, [], false⟩])
      (.ret)))
/-- slices.medianCmpFunc[skyway/api.Plot] -/
def c163 : CF where
  np := 6
  nt := 41
  res := [.t 12]
  code := .seq (.reg [
      ⟨(some 12), .mv (.k (.int .i64 0)), none, [], false⟩])
    (.seq (.reg [
       ⟨(some 14), .mv (.t 0), none, [], false⟩,
       ⟨(some 15), .mv (.t 1), none, [], false⟩,
       ⟨(some 16), .mv (.t 2), none, [], false⟩,
       ⟨(some 17), .mv (.t 4), none, [], false⟩,
       ⟨(some 18), .mv (.t 5), none, [], false⟩,
       ⟨(some 19), .call (.k (.fn 171 [])) [(.t 14), (.t 15), (.t 16), (.t 17), (.t 18)], none, [], false⟩,
       ⟨(some 13), .mv (.t 19), none, [], false⟩,
       ⟨(some 20), .ext (.t 13) 0, none, [], false⟩,
       ⟨(some 21), .ext (.t 13) 1, none, [], false⟩,
       ⟨(some 1), .mv (.t 20), none, [], false⟩,
       ⟨(some 2), .mv (.t 21), none, [], false⟩])
     (.seq (.reg [
        ⟨(some 23), .mv (.t 0), none, [], false⟩,
        ⟨(some 24), .mv (.t 2), none, [], false⟩,
        ⟨(some 25), .mv (.t 3), none, [], false⟩,
        ⟨(some 26), .mv (.t 4), none, [], false⟩,
        ⟨(some 27), .mv (.t 5), none, [], false⟩,
        ⟨(some 28), .call (.k (.fn 171 [])) [(.t 23), (.t 24), (.t 25), (.t 26), (.t 27)], none, [], false⟩,
        ⟨(some 22), .mv (.t 28), none, [], false⟩,
        ⟨(some 29), .ext (.t 22) 0, none, [], false⟩,
        ⟨(some 30), .ext (.t 22) 1, none, [], false⟩,
        ⟨(some 2), .mv (.t 29), none, [], false⟩,
        ⟨(some 3), .mv (.t 30), none, [], false⟩])
      (.seq (.reg [
         ⟨(some 32), .mv (.t 0), none, [], false⟩,
         ⟨(some 33), .mv (.t 1), none, [], false⟩,
         ⟨(some 34), .mv (.t 2), none, [], false⟩,
         ⟨(some 35), .mv (.t 4), none, [], false⟩,
         ⟨(some 36), .mv (.t 5), none, [], false⟩,
         ⟨(some 37), .call (.k (.fn 171 [])) [(.t 32), (.t 33), (.t 34), (.t 35), (.t 36)], none, [], false⟩,
         ⟨(some 31), .mv (.t 37), none, [], false⟩,
         ⟨(some 38), .ext (.t 31) 0, none, [], false⟩,
         ⟨(some 39), .ext (.t 31) 1, none, [], false⟩,
         ⟨(some 1), .mv (.t 38), none, [], false⟩,
         ⟨(some 2), .mv (.t 39), none, [], false⟩])
       (.seq (.reg [
          ⟨(some 40), .mv (.t 2), none, [], false⟩,
          ⟨(some 12), .mv (.t 40), none, [], false⟩])
        (.ret)))))
/-- slices.medianAdjacentCmpFunc[skyway/api.Plot] -/
def c162 : CF where
  np := 4
  nt := 18
  res := [.t 8]
  code := .seq (.reg [
      ⟨(some 8), .mv (.k (.int .i64 0)), none, [], false⟩])
    (.seq (.reg [
       ⟨(some 9), .mv (.t 0), none, [], false⟩,
       ⟨(some 10), .mv (.t 1), none, [], false⟩,
       ⟨(some 11), .bin .sub (.t 10) (.k (.int .i64 1)), none, [], false⟩,
       ⟨(some 12), .mv (.t 1), none, [], false⟩,
       ⟨(some 13), .mv (.t 1), none, [], false⟩,
       ⟨(some 14), .bin .add (.t 13) (.k (.int .i64 1)), none, [], false⟩,
       ⟨(some 15), .mv (.t 2), none, [], false⟩,
       ⟨(some 16), .mv (.t 3), none, [], false⟩,
       ⟨(some 17), .call (.k (.fn 163 [])) [(.t 9), (.t 11), (.t 12), (.t 14), (.t 15), (.t 16)], none, [], false⟩,
       ⟨(some 8), .mv (.t 17), none, [], false⟩])
     (.ret))
/-- slices.choosePivotCmpFunc[skyway/api.Plot] -/
def c136 : CF where
  np := 4
  nt := 63
  res := [.t 8, .t 9]
  code := .seq (.reg [
      ⟨(some 8), .mv (.k (.int .i64 0)), none, [], false⟩,
      ⟨(some 9), .mv (.k (.int .i64 0)), none, [], false⟩])
    (.seq (.reg [
       ⟨(some 15), .mv (.t 2), none, [], false⟩,
       ⟨(some 16), .mv (.t 1), none, [], false⟩,
       ⟨(some 17), .bin .sub (.t 15) (.t 16), none, [], false⟩,
       ⟨(some 10), .mv (.t 17), none, [], false⟩])
     (.seq (.reg [
        ⟨(some 11), .new [.int .i64 0], none, [], false⟩])
      (.seq (.reg [
         ⟨(some 18), .mv (.t 1), none, [], false⟩,
         ⟨(some 19), .mv (.t 10), none, [], false⟩,
         ⟨(some 20), .bin .quo (.t 19) (.k (.int .i64 4)), none, [], false⟩,
         ⟨(some 21), .bin .mul (.t 20) (.k (.int .i64 1)), none, [], false⟩,
         ⟨(some 22), .bin .add (.t 18) (.t 21), none, [], false⟩,
         ⟨(some 12), .mv (.t 22), none, [], false⟩])
       (.seq (.reg [
          ⟨(some 23), .mv (.t 1), none, [], false⟩,
          ⟨(some 24), .mv (.t 10), none, [], false⟩,
          ⟨(some 25), .bin .quo (.t 24) (.k (.int .i64 4)), none, [], false⟩,
          ⟨(some 26), .bin .mul (.t 25) (.k (.int .i64 2)), none, [], false⟩,
          ⟨(some 27), .bin .add (.t 23) (.t 26), none, [], false⟩,
          ⟨(some 13), .mv (.t 27), none, [], false⟩])
        (.seq (.reg [
           ⟨(some 28), .mv (.t 1), none, [], false⟩,
           ⟨(some 29), .mv (.t 10), none, [], false⟩,
           ⟨(some 30), .bin .quo (.t 29) (.k (.int .i64 4)), none, [], false⟩,
           ⟨(some 31), .bin .mul (.t 30) (.k (.int .i64 3)), none, [], false⟩,
           ⟨(some 32), .bin .add (.t 28) (.t 31), none, [], false⟩,
           ⟨(some 14), .mv (.t 32), none, [], false⟩])
         (.seq (.seq (.reg [
             ⟨(some 33), .mv (.t 10), none, [], false⟩,
             ⟨(some 34), .bin .geq (.t 33) (.k (.int .i64 8)), none, [], false⟩])
           (.cond (.t 34) (.seq (.seq (.reg [
                ⟨(some 35), .mv (.t 10), none, [], false⟩,
                ⟨(some 36), .bin .geq (.t 35) (.k (.int .i64 50)), none, [], false⟩])
              (.cond (.t 36) (.seq (.reg [
                  ⟨(some 37), .mv (.t 0), none, [], false⟩,
                  ⟨(some 38), .mv (.t 12), none, [], false⟩,
                  ⟨(some 39), .mv (.t 3), none, [], false⟩,
                  ⟨(some 40), .call (.k (.fn 162 [])) [(.t 37), (.t 38), (.t 11), (.t 39)], none, [], false⟩,
                  ⟨(some 12), .mv (.t 40), none, [], false⟩])
                (.seq (.reg [
                   ⟨(some 41), .mv (.t 0), none, [], false⟩,
                   ⟨(some 42), .mv (.t 13), none, [], false⟩,
                   ⟨(some 43), .mv (.t 3), none, [], false⟩,
                   ⟨(some 44), .call (.k (.fn 162 [])) [(.t 41), (.t 42), (.t 11), (.t 43)], none, [], false⟩,
                   ⟨(some 13), .mv (.t 44), none, [], false⟩])
                 (.reg [
                   ⟨(some 45), .mv (.t 0), none, [], false⟩,
                   ⟨(some 46), .mv (.t 14), none, [], false⟩,
                   ⟨(some 47), .mv (.t 3), none, [], false⟩,
                   ⟨(some 48), .call (.k (.fn 162 [])) [(.t 45), (.t 46), (.t 11), (.t 47)], none, [], false⟩,
                   ⟨(some 14), .mv (.t 48), none, [], false⟩])))
               (.skip)))
             (.reg [
               ⟨(some 49), .mv (.t 0), none, [], false⟩,
               ⟨(some 50), .mv (.t 12), none, [], false⟩,
               ⟨(some 51), .mv (.t 13), none, [], false⟩,
               ⟨(some 52), .mv (.t 14), none, [], false⟩,
               ⟨(some 53), .mv (.t 3), none, [], false⟩,
               ⟨(some 54), .call (.k (.fn 163 [])) [(.t 49), (.t 50), (.t 51), (.t 52), (.t 11), (.t 53)], none, [], false⟩,
               ⟨(some 13), .mv (.t 54), none, [], false⟩]))
            (.skip)))
          (.seq (.reg [
             ⟨(some 55), .ld1 (.t 11), none, [], false⟩])
           (.blk 0 (.seq (.reg [
               ⟨(some 58), .bin .eql (.t 55) (.k (.int .i64 0)), none, [], false⟩,
               ⟨(some 57), .mv (.t 58), none, [], false⟩])
             (.cond (.t 57) (.seq (.reg [
                 ⟨(some 59), .mv (.t 13), none, [], false⟩,
                 ⟨(some 8), .mv (.t 59), none, [], false⟩,
                 ⟨(some 9), .mv (.k (.int .i64 1)), none, [], false⟩])
               (.ret))
              (.seq (.reg [
                 ⟨(some 61), .bin .eql (.t 55) (.k (.int .i64 12)), none, [], false⟩,
                 ⟨(some 60), .mv (.t 61), none, [], false⟩])
               (.cond (.t 60) (.seq (.reg [
                   ⟨(some 62), .mv (.t 13), none, [], false⟩,
                   ⟨(some 8), .mv (.t 62), none, [], false⟩,
                   ⟨(some 9), .mv (.k (.int .i64 2)), none, [], false⟩])
                 (.ret))
                (.seq (.reg [
                   ⟨(some 56), .mv (.t 13), none, [], false⟩,
                   ⟨(some 8), .mv (.t 56), none, [], false⟩,
                   ⟨(some 9), .mv (.k (.int .i64 0)), none, [], false⟩])
                 (.ret))))))))))))))
/-- slices.reverseRangeCmpFunc[skyway/api.Plot] -/
def c137 : CF where
  np := 4
  nt := 34
  res := []
  code := .seq (.reg [
      ⟨(some 10), .mv (.t 1), none, [], false⟩,
      ⟨(some 8), .mv (.t 10), none, [], false⟩])
    (.seq (.reg [
       ⟨(some 11), .mv (.t 2), none, [], false⟩,
       ⟨(some 12), .bin .sub (.t 11) (.k (.int .i64 1)), none, [], false⟩,
       ⟨(some 9), .mv (.t 12), none, [], false⟩])
     (.blk 0 (.loop (.seq (.seq (.reg [
           ⟨(some 13), .mv (.t 8), none, [], false⟩,
           ⟨(some 14), .mv (.t 9), none, [], false⟩,
           ⟨(some 15), .bin .lss (.t 13) (.t 14), none, [], false⟩])
         (.cond (.t 15) (.skip)
          (.exit 0)))
        (.blk 1 (.seq (.reg [
            ⟨(some 16), .mv (.t 0), none, [], false⟩,
            ⟨(some 17), .mv (.t 8), none, [], false⟩,
            ⟨(some 18), .mv (.t 0), none, [], false⟩,
            ⟨(some 19), .mv (.t 9), none, [], false⟩,
            ⟨(some 20), .mv (.t 0), none, [], false⟩,
            ⟨(some 21), .mv (.t 9), none, [], false⟩,
            ⟨(some 22), .iad 6 (.t 20) (.t 21), none, [], false⟩,
            ⟨(some 23), .ldn 6 (.t 22), none, [], false⟩,
            ⟨(some 24), .mv (.t 0), none, [], false⟩,
            ⟨(some 25), .mv (.t 8), none, [], false⟩,
            ⟨(some 26), .iad 6 (.t 24) (.t 25), none, [], false⟩,
            ⟨(some 27), .ldn 6 (.t 26), none, [], false⟩,
            ⟨(some 28), .iad 6 (.t 16) (.t 17), none, [], false⟩,
            ⟨none, .st 6 (.t 28) (.t 23), none, [], false⟩,
            ⟨(some 29), .iad 6 (.t 18) (.t 19), none, [], false⟩,
            ⟨none, .st 6 (.t 29) (.t 27), none, [], false⟩])
          (.seq (.reg [
             ⟨(some 30), .mv (.t 8), none, [], false⟩,
             ⟨(some 31), .bin .add (.t 30) (.k (.int .i64 1)), none, [], false⟩,
             ⟨(some 8), .mv (.t 31), none, [], false⟩])
           (.reg [
             ⟨(some 32), .mv (.t 9), none, [], false⟩,
             ⟨(some 33), .bin .sub (.t 32) (.k (.int .i64 1)), none, [], false⟩,
             ⟨(some 9), .mv (.t 33), none, [], false⟩]))))))))
/-- slices.partialInsertionSortCmpFunc[skyway/api.Plot] -/
def c138 : CF where
  np := 4
  nt := 141
  res := [.t 8]
  code := .seq (.reg [
      ⟨(some 8), .mv (.k (.bool false)), none, [], false⟩])
    (.seq (.reg [
       ⟨(some 13), .mv (.t 1), none, [], false⟩,
       ⟨(some 14), .bin .add (.t 13) (.k (.int .i64 1)), none, [], false⟩,
       ⟨(some 9), .mv (.t 14), none, [], false⟩])
     (.seq (.seq (.reg [
         ⟨(some 10), .mv (.k (.int .i64 0)), none, [], false⟩])
       (.blk 0 (.loop (.seq (.seq (.reg [
             ⟨(some 15), .mv (.t 10), none, [], false⟩,
             ⟨(some 16), .bin .lss (.t 15) (.k (.int .i64 5)), none, [], false⟩])
           (.cond (.t 16) (.skip)
            (.exit 0)))
          (.seq (.blk 1 (.seq (.blk 2 (.loop (.seq (.seq (.reg [
                   ⟨(some 19), .mv (.t 9), none, [], false⟩,
                   ⟨(some 20), .mv (.t 2), none, [], false⟩,
                   ⟨(some 21), .bin .lss (.t 19) (.t 20), none, [], false⟩,
                   ⟨(some 22), .mv (.t 21), none, [], false⟩,
                   ⟨(some 23), .mv (.t 3), (some (22, true)), [], false⟩,
                   ⟨(some 24), .mv (.t 0), (some (22, true)), [], false⟩,
                   ⟨(some 25), .mv (.t 9), (some (22, true)), [], false⟩,
                   ⟨(some 26), .iad 6 (.t 24) (.t 25), (some (22, true)), [], false⟩,
                   ⟨(some 27), .ldn 6 (.t 26), (some (22, true)), [], false⟩,
                   ⟨(some 28), .mv (.t 0), (some (22, true)), [], false⟩,
                   ⟨(some 29), .mv (.t 9), (some (22, true)), [], false⟩,
                   ⟨(some 30), .bin .sub (.t 29) (.k (.int .i64 1)), (some (22, true)), [], false⟩,
                   ⟨(some 31), .iad 6 (.t 28) (.t 30), (some (22, true)), [], false⟩,
                   ⟨(some 32), .ldn 6 (.t 31), (some (22, true)), [], false⟩,
                   ⟨(some 33), .call (.t 23) [(.t 27), (.t 32)], (some (22, true)), [], false⟩,
                   ⟨(some 34), .bin .lss (.t 33) (.k (.int .i64 0)), (some (22, true)), [], false⟩,
                   ⟨(some 35), .un .not (.t 34), (some (22, true)), [], false⟩,
                   ⟨(some 36), .pick (.t 22) (.t 35) (.k (.bool false)), none, [], false⟩])
                 (.cond (.t 36) (.skip)
                  (.exit 2)))
                (.blk 3 (.reg [
                   ⟨(some 37), .mv (.t 9), none, [], false⟩,
                   ⟨(some 38), .bin .add (.t 37) (.k (.int .i64 1)), none, [], false⟩,
                   ⟨(some 9), .mv (.t 38), none, [], false⟩])))))
             (.seq (.seq (.reg [
                 ⟨(some 39), .mv (.t 9), none, [], false⟩,
                 ⟨(some 40), .mv (.t 2), none, [], false⟩,
                 ⟨(some 41), .bin .eql (.t 39) (.t 40), none, [], false⟩])
               (.cond (.t 41) (.seq (.reg [
                   ⟨(some 8), .mv (.k (.bool true)), none, [], false⟩])
                 (.ret))
                (.skip)))
              (.seq (.seq (.reg [
                  ⟨(some 42), .mv (.t 2), none, [], false⟩,
                  ⟨(some 43), .mv (.t 1), none, [], false⟩,
                  ⟨(some 44), .bin .sub (.t 42) (.t 43), none, [], false⟩,
                  ⟨(some 45), .bin .lss (.t 44) (.k (.int .i64 50)), none, [], false⟩])
                (.cond (.t 45) (.seq (.reg [
                    ⟨(some 8), .mv (.k (.bool false)), none, [], false⟩])
                  (.ret))
                 (.skip)))
               (.seq (.reg [
                  ⟨(some 46), .mv (.t 0), none, [], false⟩,
                  ⟨(some 47), .mv (.t 9), none, [], false⟩,
                  ⟨(some 48), .mv (.t 0), none, [], false⟩,
                  ⟨(some 49), .mv (.t 9), none, [], false⟩,
                  ⟨(some 50), .bin .sub (.t 49) (.k (.int .i64 1)), none, [], false⟩,
                  ⟨(some 51), .mv (.t 0), none, [], false⟩,
                  ⟨(some 52), .mv (.t 9), none, [], false⟩,
                  ⟨(some 53), .bin .sub (.t 52) (.k (.int .i64 1)), none, [], false⟩,
                  ⟨(some 54), .iad 6 (.t 51) (.t 53), none, [], false⟩,
                  ⟨(some 55), .ldn 6 (.t 54), none, [], false⟩,
                  ⟨(some 56), .mv (.t 0), none, [], false⟩,
                  ⟨(some 57), .mv (.t 9), none, [], false⟩,
                  ⟨(some 58), .iad 6 (.t 56) (.t 57), none, [], false⟩,
                  ⟨(some 59), .ldn 6 (.t 58), none, [], false⟩,
                  ⟨(some 60), .iad 6 (.t 46) (.t 47), none, [], false⟩,
                  ⟨none, .st 6 (.t 60) (.t 55), none, [], false⟩,
                  ⟨(some 61), .iad 6 (.t 48) (.t 50), none, [], false⟩,
                  ⟨none, .st 6 (.t 61) (.t 59), none, [], false⟩])
                (.seq (.seq (.reg [
                    ⟨(some 62), .mv (.t 9), none, [], false⟩,
                    ⟨(some 63), .mv (.t 1), none, [], false⟩,
                    ⟨(some 64), .bin .sub (.t 62) (.t 63), none, [], false⟩,
                    ⟨(some 65), .bin .geq (.t 64) (.k (.int .i64 2)), none, [], false⟩])
                  (.cond (.t 65) (.seq (.reg [
                      ⟨(some 66), .mv (.t 9), none, [], false⟩,
                      ⟨(some 67), .bin .sub (.t 66) (.k (.int .i64 1)), none, [], false⟩,
                      ⟨(some 11), .mv (.t 67), none, [], false⟩])
                    (.blk 4 (.loop (.seq (.seq (.reg [
                          ⟨(some 68), .mv (.t 11), none, [], false⟩,
                          ⟨(some 69), .bin .geq (.t 68) (.k (.int .i64 1)), none, [], false⟩])
                        (.cond (.t 69) (.skip)
                         (.exit 4)))
                       (.seq (.blk 5 (.seq (.seq (.reg [
                             ⟨(some 72), .mv (.t 3), none, [], false⟩,
                             ⟨(some 73), .mv (.t 0), none, [], false⟩,
                             ⟨(some 74), .mv (.t 11), none, [], false⟩,
                             ⟨(some 75), .iad 6 (.t 73) (.t 74), none, [], false⟩,
                             ⟨(some 76), .ldn 6 (.t 75), none, [], false⟩,
                             ⟨(some 77), .mv (.t 0), none, [], false⟩,
                             ⟨(some 78), .mv (.t 11), none, [], false⟩,
                             ⟨(some 79), .bin .sub (.t 78) (.k (.int .i64 1)), none, [], false⟩,
                             ⟨(some 80), .iad 6 (.t 77) (.t 79), none, [], false⟩,
                             ⟨(some 81), .ldn 6 (.t 80), none, [], false⟩,
                             ⟨(some 82), .call (.t 72) [(.t 76), (.t 81)], none, [], false⟩,
                             ⟨(some 83), .bin .lss (.t 82) (.k (.int .i64 0)), none, [], false⟩,
                             ⟨(some 84), .un .not (.t 83), none, [], false⟩])
                           (.cond (.t 84) (.exit 4)
                            (.skip)))
                          (.reg [
                            ⟨(some 85), .mv (.t 0), none, [], false⟩,
                            ⟨(some 86), .mv (.t 11), none, [], false⟩,
                            ⟨(some 87), .mv (.t 0), none, [], false⟩,
                            ⟨(some 88), .mv (.t 11), none, [], false⟩,
                            ⟨(some 89), .bin .sub (.t 88) (.k (.int .i64 1)), none, [], false⟩,
                            ⟨(some 90), .mv (.t 0), none, [], false⟩,
                            ⟨(some 91), .mv (.t 11), none, [], false⟩,
                            ⟨(some 92), .bin .sub (.t 91) (.k (.int .i64 1)), none, [], false⟩,
                            ⟨(some 93), .iad 6 (.t 90) (.t 92), none, [], false⟩,
                            ⟨(some 94), .ldn 6 (.t 93), none, [], false⟩,
                            ⟨(some 95), .mv (.t 0), none, [], false⟩,
                            ⟨(some 96), .mv (.t 11), none, [], false⟩,
                            ⟨(some 97), .iad 6 (.t 95) (.t 96), none, [], false⟩,
                            ⟨(some 98), .ldn 6 (.t 97), none, [], false⟩,
                            ⟨(some 99), .iad 6 (.t 85) (.t 86), none, [], false⟩,
                            ⟨none, .st 6 (.t 99) (.t 94), none, [], false⟩,
                            ⟨(some 100), .iad 6 (.t 87) (.t 89), none, [], false⟩,
                            ⟨none, .st 6 (.t 100) (.t 98), none, [], false⟩])))
                        (.reg [
                          ⟨(some 70), .mv (.t 11), none, [], false⟩,
                          ⟨(some 71), .bin .sub (.t 70) (.k (.int .i64 1)), none, [], false⟩,
                          ⟨(some 11), .mv (.t 71), none, [], false⟩]))))))
                   (.skip)))
                 (.seq (.reg [
                    ⟨(some 101), .mv (.t 2), none, [], false⟩,
                    ⟨(some 102), .mv (.t 9), none, [], false⟩,
                    ⟨(some 103), .bin .sub (.t 101) (.t 102), none, [], false⟩,
                    ⟨(some 104), .bin .geq (.t 103) (.k (.int .i64 2)), none, [], false⟩])
                  (.cond (.t 104) (.seq (.reg [
                      ⟨(some 105), .mv (.t 9), none, [], false⟩,
                      ⟨(some 106), .bin .add (.t 105) (.k (.int .i64 1)), none, [], false⟩,
                      ⟨(some 12), .mv (.t 106), none, [], false⟩])
                    (.blk 6 (.loop (.seq (.seq (.reg [
                          ⟨(some 107), .mv (.t 12), none, [], false⟩,
                          ⟨(some 108), .mv (.t 2), none, [], false⟩,
                          ⟨(some 109), .bin .lss (.t 107) (.t 108), none, [], false⟩])
                        (.cond (.t 109) (.skip)
                         (.exit 6)))
                       (.seq (.blk 7 (.seq (.seq (.reg [
                             ⟨(some 112), .mv (.t 3), none, [], false⟩,
                             ⟨(some 113), .mv (.t 0), none, [], false⟩,
                             ⟨(some 114), .mv (.t 12), none, [], false⟩,
                             ⟨(some 115), .iad 6 (.t 113) (.t 114), none, [], false⟩,
                             ⟨(some 116), .ldn 6 (.t 115), none, [], false⟩,
                             ⟨(some 117), .mv (.t 0), none, [], false⟩,
                             ⟨(some 118), .mv (.t 12), none, [], false⟩,
                             ⟨(some 119), .bin .sub (.t 118) (.k (.int .i64 1)), none, [], false⟩,
                             ⟨(some 120), .iad 6 (.t 117) (.t 119), none, [], false⟩,
                             ⟨(some 121), .ldn 6 (.t 120), none, [], false⟩,
                             ⟨(some 122), .call (.t 112) [(.t 116), (.t 121)], none, [], false⟩,
                             ⟨(some 123), .bin .lss (.t 122) (.k (.int .i64 0)), none, [], false⟩,
                             ⟨(some 124), .un .not (.t 123), none, [], false⟩])
                           (.cond (.t 124) (.exit 6)
                            (.skip)))
                          (.reg [
                            ⟨(some 125), .mv (.t 0), none, [], false⟩,
                            ⟨(some 126), .mv (.t 12), none, [], false⟩,
                            ⟨(some 127), .mv (.t 0), none, [], false⟩,
                            ⟨(some 128), .mv (.t 12), none, [], false⟩,
                            ⟨(some 129), .bin .sub (.t 128) (.k (.int .i64 1)), none, [], false⟩,
                            ⟨(some 130), .mv (.t 0), none, [], false⟩,
                            ⟨(some 131), .mv (.t 12), none, [], false⟩,
                            ⟨(some 132), .bin .sub (.t 131) (.k (.int .i64 1)), none, [], false⟩,
                            ⟨(some 133), .iad 6 (.t 130) (.t 132), none, [], false⟩,
                            ⟨(some 134), .ldn 6 (.t 133), none, [], false⟩,
                            ⟨(some 135), .mv (.t 0), none, [], false⟩,
                            ⟨(some 136), .mv (.t 12), none, [], false⟩,
                            ⟨(some 137), .iad 6 (.t 135) (.t 136), none, [], false⟩,
                            ⟨(some 138), .ldn 6 (.t 137), none, [], false⟩,
                            ⟨(some 139), .iad 6 (.t 125) (.t 126), none, [], false⟩,
                            ⟨none, .st 6 (.t 139) (.t 134), none, [], false⟩,
                            ⟨(some 140), .iad 6 (.t 127) (.t 129), none, [], false⟩,
                            ⟨none, .st 6 (.t 140) (.t 138), none, [], false⟩])))
                        (.reg [
                          ⟨(some 110), .mv (.t 12), none, [], false⟩,
                          ⟨(some 111), .bin .add (.t 110) (.k (.int .i64 1)), none, [], false⟩,
                          ⟨(some 12), .mv (.t 111), none, [], false⟩]))))))
                   (.skip)))))))))
           (.reg [
             ⟨(some 17), .mv (.t 10), none, [], false⟩,
             ⟨(some 18), .bin .add (.t 17) (.k (.int .i64 1)), none, [], false⟩,
             ⟨(some 10), .mv (.t 18), none, [], false⟩]))))))
      (.seq (.reg [
         ⟨(some 8), .mv (.k (.bool false)), none, [], false⟩])
       (.ret))))
/-- slices.partitionEqualCmpFunc[skyway/api.Plot] -/
def c139 : CF where
  np := 5
  nt := 90
  res := [.t 10]
  code := .seq (.reg [
      ⟨(some 10), .mv (.k (.int .i64 0)), none, [], false⟩])
    (.seq (.reg [
       ⟨(some 13), .mv (.t 0), none, [], false⟩,
       ⟨(some 14), .mv (.t 1), none, [], false⟩,
       ⟨(some 15), .mv (.t 0), none, [], false⟩,
       ⟨(some 16), .mv (.t 3), none, [], false⟩,
       ⟨(some 17), .mv (.t 0), none, [], false⟩,
       ⟨(some 18), .mv (.t 3), none, [], false⟩,
       ⟨(some 19), .iad 6 (.t 17) (.t 18), none, [], false⟩,
       ⟨(some 20), .ldn 6 (.t 19), none, [], false⟩,
       ⟨(some 21), .mv (.t 0), none, [], false⟩,
       ⟨(some 22), .mv (.t 1), none, [], false⟩,
       ⟨(some 23), .iad 6 (.t 21) (.t 22), none, [], false⟩,
       ⟨(some 24), .ldn 6 (.t 23), none, [], false⟩,
       ⟨(some 25), .iad 6 (.t 13) (.t 14), none, [], false⟩,
       ⟨none, .st 6 (.t 25) (.t 20), none, [], false⟩,
       ⟨(some 26), .iad 6 (.t 15) (.t 16), none, [], false⟩,
       ⟨none, .st 6 (.t 26) (.t 24), none, [], false⟩])
     (.seq (.reg [
        ⟨(some 27), .mv (.t 1), none, [], false⟩,
        ⟨(some 28), .bin .add (.t 27) (.k (.int .i64 1)), none, [], false⟩,
        ⟨(some 29), .mv (.t 2), none, [], false⟩,
        ⟨(some 30), .bin .sub (.t 29) (.k (.int .i64 1)), none, [], false⟩,
        ⟨(some 11), .mv (.t 28), none, [], false⟩,
        ⟨(some 12), .mv (.t 30), none, [], false⟩])
      (.seq (.blk 0 (.loop (.blk 1 (.seq (.blk 2 (.loop (.seq (.seq (.reg [
                 ⟨(some 31), .mv (.t 11), none, [], false⟩,
                 ⟨(some 32), .mv (.t 12), none, [], false⟩,
                 ⟨(some 33), .bin .leq (.t 31) (.t 32), none, [], false⟩,
                 ⟨(some 34), .mv (.t 33), none, [], false⟩,
                 ⟨(some 35), .mv (.t 4), (some (34, true)), [], false⟩,
                 ⟨(some 36), .mv (.t 0), (some (34, true)), [], false⟩,
                 ⟨(some 37), .mv (.t 1), (some (34, true)), [], false⟩,
                 ⟨(some 38), .iad 6 (.t 36) (.t 37), (some (34, true)), [], false⟩,
                 ⟨(some 39), .ldn 6 (.t 38), (some (34, true)), [], false⟩,
                 ⟨(some 40), .mv (.t 0), (some (34, true)), [], false⟩,
                 ⟨(some 41), .mv (.t 11), (some (34, true)), [], false⟩,
                 ⟨(some 42), .iad 6 (.t 40) (.t 41), (some (34, true)), [], false⟩,
                 ⟨(some 43), .ldn 6 (.t 42), (some (34, true)), [], false⟩,
                 ⟨(some 44), .call (.t 35) [(.t 39), (.t 43)], (some (34, true)), [], false⟩,
                 ⟨(some 45), .bin .lss (.t 44) (.k (.int .i64 0)), (some (34, true)), [], false⟩,
                 ⟨(some 46), .un .not (.t 45), (some (34, true)), [], false⟩,
                 ⟨(some 47), .pick (.t 34) (.t 46) (.k (.bool false)), none, [], false⟩])
               (.cond (.t 47) (.skip)
                (.exit 2)))
              (.blk 3 (.reg [
                 ⟨(some 48), .mv (.t 11), none, [], false⟩,
                 ⟨(some 49), .bin .add (.t 48) (.k (.int .i64 1)), none, [], false⟩,
                 ⟨(some 11), .mv (.t 49), none, [], false⟩])))))
           (.seq (.blk 4 (.loop (.seq (.seq (.reg [
                  ⟨(some 50), .mv (.t 11), none, [], false⟩,
                  ⟨(some 51), .mv (.t 12), none, [], false⟩,
                  ⟨(some 52), .bin .leq (.t 50) (.t 51), none, [], false⟩,
                  ⟨(some 53), .mv (.t 52), none, [], false⟩,
                  ⟨(some 54), .mv (.t 4), (some (53, true)), [], false⟩,
                  ⟨(some 55), .mv (.t 0), (some (53, true)), [], false⟩,
                  ⟨(some 56), .mv (.t 1), (some (53, true)), [], false⟩,
                  ⟨(some 57), .iad 6 (.t 55) (.t 56), (some (53, true)), [], false⟩,
                  ⟨(some 58), .ldn 6 (.t 57), (some (53, true)), [], false⟩,
                  ⟨(some 59), .mv (.t 0), (some (53, true)), [], false⟩,
                  ⟨(some 60), .mv (.t 12), (some (53, true)), [], false⟩,
                  ⟨(some 61), .iad 6 (.t 59) (.t 60), (some (53, true)), [], false⟩,
                  ⟨(some 62), .ldn 6 (.t 61), (some (53, true)), [], false⟩,
                  ⟨(some 63), .call (.t 54) [(.t 58), (.t 62)], (some (53, true)), [], false⟩,
                  ⟨(some 64), .bin .lss (.t 63) (.k (.int .i64 0)), (some (53, true)), [], false⟩,
                  ⟨(some 65), .pick (.t 53) (.t 64) (.k (.bool false)), none, [], false⟩])
                (.cond (.t 65) (.skip)
                 (.exit 4)))
               (.blk 5 (.reg [
                  ⟨(some 66), .mv (.t 12), none, [], false⟩,
                  ⟨(some 67), .bin .sub (.t 66) (.k (.int .i64 1)), none, [], false⟩,
                  ⟨(some 12), .mv (.t 67), none, [], false⟩])))))
            (.seq (.seq (.reg [
                ⟨(some 68), .mv (.t 11), none, [], false⟩,
                ⟨(some 69), .mv (.t 12), none, [], false⟩,
                ⟨(some 70), .bin .gtr (.t 68) (.t 69), none, [], false⟩])
              (.cond (.t 70) (.exit 0)
               (.skip)))
             (.seq (.reg [
                ⟨(some 71), .mv (.t 0), none, [], false⟩,
                ⟨(some 72), .mv (.t 11), none, [], false⟩,
                ⟨(some 73), .mv (.t 0), none, [], false⟩,
                ⟨(some 74), .mv (.t 12), none, [], false⟩,
                ⟨(some 75), .mv (.t 0), none, [], false⟩,
                ⟨(some 76), .mv (.t 12), none, [], false⟩,
                ⟨(some 77), .iad 6 (.t 75) (.t 76), none, [], false⟩,
                ⟨(some 78), .ldn 6 (.t 77), none, [], false⟩,
                ⟨(some 79), .mv (.t 0), none, [], false⟩,
                ⟨(some 80), .mv (.t 11), none, [], false⟩,
                ⟨(some 81), .iad 6 (.t 79) (.t 80), none, [], false⟩,
                ⟨(some 82), .ldn 6 (.t 81), none, [], false⟩,
                ⟨(some 83), .iad 6 (.t 71) (.t 72), none, [], false⟩,
                ⟨none, .st 6 (.t 83) (.t 78), none, [], false⟩,
                ⟨(some 84), .iad 6 (.t 73) (.t 74), none, [], false⟩,
                ⟨none, .st 6 (.t 84) (.t 82), none, [], false⟩])
              (.seq (.reg [
                 ⟨(some 85), .mv (.t 11), none, [], false⟩,
                 ⟨(some 86), .bin .add (.t 85) (.k (.int .i64 1)), none, [], false⟩,
                 ⟨(some 11), .mv (.t 86), none, [], false⟩])
               (.reg [
                 ⟨(some 87), .mv (.t 12), none, [], false⟩,
                 ⟨(some 88), .bin .sub (.t 87) (.k (.int .i64 1)), none, [], false⟩,
                 ⟨(some 12), .mv (.t 88), none, [], false⟩])))))))))
       (.seq (.reg [
          ⟨(some 89), .mv (.t 11), none, [], false⟩,
          ⟨(some 10), .mv (.t 89), none, [], false⟩])
        (.ret)))))
/-- slices.partitionCmpFunc[skyway/api.Plot] -/
def c140 : CF where
  np := 5
  nt := 178
  res := [.t 10, .t 11]
  code := .seq (.reg [
      ⟨(some 10), .mv (.k (.int .i64 0)), none, [], false⟩,
      ⟨(some 11), .mv (.k (.bool false)), none, [], false⟩])
    (.seq (.reg [
       ⟨(some 14), .mv (.t 0), none, [], false⟩,
       ⟨(some 15), .mv (.t 1), none, [], false⟩,
       ⟨(some 16), .mv (.t 0), none, [], false⟩,
       ⟨(some 17), .mv (.t 3), none, [], false⟩,
       ⟨(some 18), .mv (.t 0), none, [], false⟩,
       ⟨(some 19), .mv (.t 3), none, [], false⟩,
       ⟨(some 20), .iad 6 (.t 18) (.t 19), none, [], false⟩,
       ⟨(some 21), .ldn 6 (.t 20), none, [], false⟩,
       ⟨(some 22), .mv (.t 0), none, [], false⟩,
       ⟨(some 23), .mv (.t 1), none, [], false⟩,
       ⟨(some 24), .iad 6 (.t 22) (.t 23), none, [], false⟩,
       ⟨(some 25), .ldn 6 (.t 24), none, [], false⟩,
       ⟨(some 26), .iad 6 (.t 14) (.t 15), none, [], false⟩,
       ⟨none, .st 6 (.t 26) (.t 21), none, [], false⟩,
       ⟨(some 27), .iad 6 (.t 16) (.t 17), none, [], false⟩,
       ⟨none, .st 6 (.t 27) (.t 25), none, [], false⟩])
     (.seq (.reg [
        ⟨(some 28), .mv (.t 1), none, [], false⟩,
        ⟨(some 29), .bin .add (.t 28) (.k (.int .i64 1)), none, [], false⟩,
        ⟨(some 30), .mv (.t 2), none, [], false⟩,
        ⟨(some 31), .bin .sub (.t 30) (.k (.int .i64 1)), none, [], false⟩,
        ⟨(some 12), .mv (.t 29), none, [], false⟩,
        ⟨(some 13), .mv (.t 31), none, [], false⟩])
      (.seq (.blk 0 (.loop (.seq (.seq (.reg [
             ⟨(some 32), .mv (.t 12), none, [], false⟩,
             ⟨(some 33), .mv (.t 13), none, [], false⟩,
             ⟨(some 34), .bin .leq (.t 32) (.t 33), none, [], false⟩,
             ⟨(some 35), .mv (.t 34), none, [], false⟩,
             ⟨(some 36), .mv (.t 4), (some (35, true)), [], false⟩,
             ⟨(some 37), .mv (.t 0), (some (35, true)), [], false⟩,
             ⟨(some 38), .mv (.t 12), (some (35, true)), [], false⟩,
             ⟨(some 39), .iad 6 (.t 37) (.t 38), (some (35, true)), [], false⟩,
             ⟨(some 40), .ldn 6 (.t 39), (some (35, true)), [], false⟩,
             ⟨(some 41), .mv (.t 0), (some (35, true)), [], false⟩,
             ⟨(some 42), .mv (.t 1), (some (35, true)), [], false⟩,
             ⟨(some 43), .iad 6 (.t 41) (.t 42), (some (35, true)), [], false⟩,
             ⟨(some 44), .ldn 6 (.t 43), (some (35, true)), [], false⟩,
             ⟨(some 45), .call (.t 36) [(.t 40), (.t 44)], (some (35, true)), [], false⟩,
             ⟨(some 46), .bin .lss (.t 45) (.k (.int .i64 0)), (some (35, true)), [], false⟩,
             ⟨(some 47), .pick (.t 35) (.t 46) (.k (.bool false)), none, [], false⟩])
           (.cond (.t 47) (.skip)
            (.exit 0)))
          (.blk 1 (.reg [
             ⟨(some 48), .mv (.t 12), none, [], false⟩,
             ⟨(some 49), .bin .add (.t 48) (.k (.int .i64 1)), none, [], false⟩,
             ⟨(some 12), .mv (.t 49), none, [], false⟩])))))
       (.seq (.blk 2 (.loop (.seq (.seq (.reg [
              ⟨(some 50), .mv (.t 12), none, [], false⟩,
              ⟨(some 51), .mv (.t 13), none, [], false⟩,
              ⟨(some 52), .bin .leq (.t 50) (.t 51), none, [], false⟩,
              ⟨(some 53), .mv (.t 52), none, [], false⟩,
              ⟨(some 54), .mv (.t 4), (some (53, true)), [], false⟩,
              ⟨(some 55), .mv (.t 0), (some (53, true)), [], false⟩,
              ⟨(some 56), .mv (.t 13), (some (53, true)), [], false⟩,
              ⟨(some 57), .iad 6 (.t 55) (.t 56), (some (53, true)), [], false⟩,
              ⟨(some 58), .ldn 6 (.t 57), (some (53, true)), [], false⟩,
              ⟨(some 59), .mv (.t 0), (some (53, true)), [], false⟩,
              ⟨(some 60), .mv (.t 1), (some (53, true)), [], false⟩,
              ⟨(some 61), .iad 6 (.t 59) (.t 60), (some (53, true)), [], false⟩,
              ⟨(some 62), .ldn 6 (.t 61), (some (53, true)), [], false⟩,
              ⟨(some 63), .call (.t 54) [(.t 58), (.t 62)], (some (53, true)), [], false⟩,
              ⟨(some 64), .bin .lss (.t 63) (.k (.int .i64 0)), (some (53, true)), [], false⟩,
              ⟨(some 65), .un .not (.t 64), (some (53, true)), [], false⟩,
              ⟨(some 66), .pick (.t 53) (.t 65) (.k (.bool false)), none, [], false⟩])
            (.cond (.t 66) (.skip)
             (.exit 2)))
           (.blk 3 (.reg [
              ⟨(some 67), .mv (.t 13), none, [], false⟩,
              ⟨(some 68), .bin .sub (.t 67) (.k (.int .i64 1)), none, [], false⟩,
              ⟨(some 13), .mv (.t 68), none, [], false⟩])))))
        (.seq (.seq (.reg [
            ⟨(some 69), .mv (.t 12), none, [], false⟩,
            ⟨(some 70), .mv (.t 13), none, [], false⟩,
            ⟨(some 71), .bin .gtr (.t 69) (.t 70), none, [], false⟩])
          (.cond (.t 71) (.seq (.reg [
              ⟨(some 72), .mv (.t 0), none, [], false⟩,
              ⟨(some 73), .mv (.t 13), none, [], false⟩,
              ⟨(some 74), .mv (.t 0), none, [], false⟩,
              ⟨(some 75), .mv (.t 1), none, [], false⟩,
              ⟨(some 76), .mv (.t 0), none, [], false⟩,
              ⟨(some 77), .mv (.t 1), none, [], false⟩,
              ⟨(some 78), .iad 6 (.t 76) (.t 77), none, [], false⟩,
              ⟨(some 79), .ldn 6 (.t 78), none, [], false⟩,
              ⟨(some 80), .mv (.t 0), none, [], false⟩,
              ⟨(some 81), .mv (.t 13), none, [], false⟩,
              ⟨(some 82), .iad 6 (.t 80) (.t 81), none, [], false⟩,
              ⟨(some 83), .ldn 6 (.t 82), none, [], false⟩,
              ⟨(some 84), .iad 6 (.t 72) (.t 73), none, [], false⟩,
              ⟨none, .st 6 (.t 84) (.t 79), none, [], false⟩,
              ⟨(some 85), .iad 6 (.t 74) (.t 75), none, [], false⟩,
              ⟨none, .st 6 (.t 85) (.t 83), none, [], false⟩])
            (.seq (.reg [
               ⟨(some 86), .mv (.t 13), none, [], false⟩,
               ⟨(some 10), .mv (.t 86), none, [], false⟩,
               ⟨(some 11), .mv (.k (.bool true)), none, [], false⟩])
             (.ret)))
           (.skip)))
         (.seq (.reg [
            ⟨(some 87), .mv (.t 0), none, [], false⟩,
            ⟨(some 88), .mv (.t 12), none, [], false⟩,
            ⟨(some 89), .mv (.t 0), none, [], false⟩,
            ⟨(some 90), .mv (.t 13), none, [], false⟩,
            ⟨(some 91), .mv (.t 0), none, [], false⟩,
            ⟨(some 92), .mv (.t 13), none, [], false⟩,
            ⟨(some 93), .iad 6 (.t 91) (.t 92), none, [], false⟩,
            ⟨(some 94), .ldn 6 (.t 93), none, [], false⟩,
            ⟨(some 95), .mv (.t 0), none, [], false⟩,
            ⟨(some 96), .mv (.t 12), none, [], false⟩,
            ⟨(some 97), .iad 6 (.t 95) (.t 96), none, [], false⟩,
            ⟨(some 98), .ldn 6 (.t 97), none, [], false⟩,
            ⟨(some 99), .iad 6 (.t 87) (.t 88), none, [], false⟩,
            ⟨none, .st 6 (.t 99) (.t 94), none, [], false⟩,
            ⟨(some 100), .iad 6 (.t 89) (.t 90), none, [], false⟩,
            ⟨none, .st 6 (.t 100) (.t 98), none, [], false⟩])
          (.seq (.reg [
             ⟨(some 101), .mv (.t 12), none, [], false⟩,
             ⟨(some 102), .bin .add (.t 101) (.k (.int .i64 1)), none, [], false⟩,
             ⟨(some 12), .mv (.t 102), none, [], false⟩])
           (.seq (.reg [
              ⟨(some 103), .mv (.t 13), none, [], false⟩,
              ⟨(some 104), .bin .sub (.t 103) (.k (.int .i64 1)), none, [], false⟩,
              ⟨(some 13), .mv (.t 104), none, [], false⟩])
            (.seq (.blk 4 (.loop (.blk 5 (.seq (.blk 6 (.loop (.seq (.seq (.reg [
                       ⟨(some 105), .mv (.t 12), none, [], false⟩,
                       ⟨(some 106), .mv (.t 13), none, [], false⟩,
                       ⟨(some 107), .bin .leq (.t 105) (.t 106), none, [], false⟩,
                       ⟨(some 108), .mv (.t 107), none, [], false⟩,
                       ⟨(some 109), .mv (.t 4), (some (108, true)), [], false⟩,
                       ⟨(some 110), .mv (.t 0), (some (108, true)), [], false⟩,
                       ⟨(some 111), .mv (.t 12), (some (108, true)), [], false⟩,
                       ⟨(some 112), .iad 6 (.t 110) (.t 111), (some (108, true)), [], false⟩,
                       ⟨(some 113), .ldn 6 (.t 112), (some (108, true)), [], false⟩,
                       ⟨(some 114), .mv (.t 0), (some (108, true)), [], false⟩,
                       ⟨(some 115), .mv (.t 1), (some (108, true)), [], false⟩,
                       ⟨(some 116), .iad 6 (.t 114) (.t 115), (some (108, true)), [], false⟩,
                       ⟨(some 117), .ldn 6 (.t 116), (some (108, true)), [], false⟩,
                       ⟨(some 118), .call (.t 109) [(.t 113), (.t 117)], (some (108, true)), [], false⟩,
                       ⟨(some 119), .bin .lss (.t 118) (.k (.int .i64 0)), (some (108, true)), [], false⟩,
                       ⟨(some 120), .pick (.t 108) (.t 119) (.k (.bool false)), none, [], false⟩])
                     (.cond (.t 120) (.skip)
                      (.exit 6)))
                    (.blk 7 (.reg [
                       ⟨(some 121), .mv (.t 12), none, [], false⟩,
                       ⟨(some 122), .bin .add (.t 121) (.k (.int .i64 1)), none, [], false⟩,
                       ⟨(some 12), .mv (.t 122), none, [], false⟩])))))
                 (.seq (.blk 8 (.loop (.seq (.seq (.reg [
                        ⟨(some 123), .mv (.t 12), none, [], false⟩,
                        ⟨(some 124), .mv (.t 13), none, [], false⟩,
                        ⟨(some 125), .bin .leq (.t 123) (.t 124), none, [], false⟩,
                        ⟨(some 126), .mv (.t 125), none, [], false⟩,
                        ⟨(some 127), .mv (.t 4), (some (126, true)), [], false⟩,
                        ⟨(some 128), .mv (.t 0), (some (126, true)), [], false⟩,
                        ⟨(some 129), .mv (.t 13), (some (126, true)), [], false⟩,
                        ⟨(some 130), .iad 6 (.t 128) (.t 129), (some (126, true)), [], false⟩,
                        ⟨(some 131), .ldn 6 (.t 130), (some (126, true)), [], false⟩,
                        ⟨(some 132), .mv (.t 0), (some (126, true)), [], false⟩,
                        ⟨(some 133), .mv (.t 1), (some (126, true)), [], false⟩,
                        ⟨(some 134), .iad 6 (.t 132) (.t 133), (some (126, true)), [], false⟩,
                        ⟨(some 135), .ldn 6 (.t 134), (some (126, true)), [], false⟩,
                        ⟨(some 136), .call (.t 127) [(.t 131), (.t 135)], (some (126, true)), [], false⟩,
                        ⟨(some 137), .bin .lss (.t 136) (.k (.int .i64 0)), (some (126, true)), [], false⟩,
                        ⟨(some 138), .un .not (.t 137), (some (126, true)), [], false⟩,
                        ⟨(some 139), .pick (.t 126) (.t 138) (.k (.bool false)), none, [], false⟩])
                      (.cond (.t 139) (.skip)
                       (.exit 8)))
                     (.blk 9 (.reg [
                        ⟨(some 140), .mv (.t 13), none, [], false⟩,
                        ⟨(some 141), .bin .sub (.t 140) (.k (.int .i64 1)), none, [], false⟩,
                        ⟨(some 13), .mv (.t 141), none, [], false⟩])))))
                  (.seq (.seq (.reg [
                      ⟨(some 142), .mv (.t 12), none, [], false⟩,
                      ⟨(some 143), .mv (.t 13), none, [], false⟩,
                      ⟨(some 144), .bin .gtr (.t 142) (.t 143), none, [], false⟩])
                    (.cond (.t 144) (.exit 4)
                     (.skip)))
                   (.seq (.reg [
                      ⟨(some 145), .mv (.t 0), none, [], false⟩,
                      ⟨(some 146), .mv (.t 12), none, [], false⟩,
                      ⟨(some 147), .mv (.t 0), none, [], false⟩,
                      ⟨(some 148), .mv (.t 13), none, [], false⟩,
                      ⟨(some 149), .mv (.t 0), none, [], false⟩,
                      ⟨(some 150), .mv (.t 13), none, [], false⟩,
                      ⟨(some 151), .iad 6 (.t 149) (.t 150), none, [], false⟩,
                      ⟨(some 152), .ldn 6 (.t 151), none, [], false⟩,
                      ⟨(some 153), .mv (.t 0), none, [], false⟩,
                      ⟨(some 154), .mv (.t 12), none, [], false⟩,
                      ⟨(some 155), .iad 6 (.t 153) (.t 154), none, [], false⟩,
                      ⟨(some 156), .ldn 6 (.t 155), none, [], false⟩,
                      ⟨(some 157), .iad 6 (.t 145) (.t 146), none, [], false⟩,
                      ⟨none, .st 6 (.t 157) (.t 152), none, [], false⟩,
                      ⟨(some 158), .iad 6 (.t 147) (.t 148), none, [], false⟩,
                      ⟨none, .st 6 (.t 158) (.t 156), none, [], false⟩])
                    (.seq (.reg [
                       ⟨(some 159), .mv (.t 12), none, [], false⟩,
                       ⟨(some 160), .bin .add (.t 159) (.k (.int .i64 1)), none, [], false⟩,
                       ⟨(some 12), .mv (.t 160), none, [], false⟩])
                     (.reg [
                       ⟨(some 161), .mv (.t 13), none, [], false⟩,
                       ⟨(some 162), .bin .sub (.t 161) (.k (.int .i64 1)), none, [], false⟩,
                       ⟨(some 13), .mv (.t 162), none, [], false⟩])))))))))
             (.seq (.reg [
                ⟨(some 163), .mv (.t 0), none, [], false⟩,
                ⟨(some 164), .mv (.t 13), none, [], false⟩,
                ⟨(some 165), .mv (.t 0), none, [], false⟩,
                ⟨(some 166), .mv (.t 1), none, [], false⟩,
                ⟨(some 167), .mv (.t 0), none, [], false⟩,
                ⟨(some 168), .mv (.t 1), none, [], false⟩,
                ⟨(some 169), .iad 6 (.t 167) (.t 168), none, [], false⟩,
                ⟨(some 170), .ldn 6 (.t 169), none, [], false⟩,
                ⟨(some 171), .mv (.t 0), none, [], false⟩,
                ⟨(some 172), .mv (.t 13), none, [], false⟩,
                ⟨(some 173), .iad 6 (.t 171) (.t 172), none, [], false⟩,
                ⟨(some 174), .ldn 6 (.t 173), none, [], false⟩,
                ⟨(some 175), .iad 6 (.t 163) (.t 164), none, [], false⟩,
                ⟨none, .st 6 (.t 175) (.t 170), none, [], false⟩,
                ⟨(some 176), .iad 6 (.t 165) (.t 166), none, [], false⟩,
                ⟨none, .st 6 (.t 176) (.t 174), none, [], false⟩])
              (.seq (.reg [
                 ⟨(some 177), .mv (.t 13), none, [], false⟩,
                 ⟨(some 10), .mv (.t 177), none, [], false⟩,
                 ⟨(some 11), .mv (.k (.bool false)), none, [], false⟩])
               (.ret))))))))))))
/-- slices.pdqsortCmpFunc[skyway/api.Plot] -/
def c112 : CF where
  np := 5
  nt := 148
  res := []
  code := .seq (.reg [
      ⟨(some 10), .mv (.k (.bool true)), none, [], false⟩])
    (.seq (.reg [
       ⟨(some 11), .mv (.k (.bool true)), none, [], false⟩])
     (.blk 0 (.loop (.blk 1 (.seq (.reg [
           ⟨(some 21), .mv (.t 2), none, [], false⟩,
           ⟨(some 22), .mv (.t 1), none, [], false⟩,
           ⟨(some 23), .bin .sub (.t 21) (.t 22), none, [], false⟩,
           ⟨(some 12), .mv (.t 23), none, [], false⟩])
         (.seq (.seq (.reg [
             ⟨(some 24), .mv (.t 12), none, [], false⟩,
             ⟨(some 25), .bin .leq (.t 24) (.k (.int .i64 12)), none, [], false⟩])
           (.cond (.t 25) (.seq (.reg [
               ⟨(some 26), .mv (.t 0), none, [], false⟩,
               ⟨(some 27), .mv (.t 1), none, [], false⟩,
               ⟨(some 28), .mv (.t 2), none, [], false⟩,
               ⟨(some 29), .mv (.t 4), none, [], false⟩,
               ⟨(some 30), .call (.k (.fn 133 [])) [(.t 26), (.t 27), (.t 28), (.t 29)], none, [], false⟩])
             (.ret))
            (.skip)))
          (.seq (.seq (.reg [
              ⟨(some 31), .mv (.t 3), none, [], false⟩,
              ⟨(some 32), .bin .eql (.t 31) (.k (.int .i64 0)), none, [], false⟩])
            (.cond (.t 32) (.seq (.reg [
                ⟨(some 33), .mv (.t 0), none, [], false⟩,
                ⟨(some 34), .mv (.t 1), none, [], false⟩,
                ⟨(some 35), .mv (.t 2), none, [], false⟩,
                ⟨(some 36), .mv (.t 4), none, [], false⟩,
                ⟨(some 37), .call (.k (.fn 134 [])) [(.t 33), (.t 34), (.t 35), (.t 36)], none, [], false⟩])
              (.ret))
             (.skip)))
           (.seq (.seq (.reg [
               ⟨(some 38), .mv (.t 10), none, [], false⟩,
               ⟨(some 39), .un .not (.t 38), none, [], false⟩])
             (.cond (.t 39) (.seq (.reg [
                 ⟨(some 40), .mv (.t 0), none, [], false⟩,
                 ⟨(some 41), .mv (.t 1), none, [], false⟩,
                 ⟨(some 42), .mv (.t 2), none, [], false⟩,
                 ⟨(some 43), .mv (.t 4), none, [], false⟩,
                 ⟨(some 44), .call (.k (.fn 135 [])) [(.t 40), (.t 41), (.t 42), (.t 43)], none, [], false⟩])
               (.reg [
                 ⟨(some 45), .mv (.t 3), none, [], false⟩,
                 ⟨(some 46), .bin .sub (.t 45) (.k (.int .i64 1)), none, [], false⟩,
                 ⟨(some 3), .mv (.t 46), none, [], false⟩]))
              (.skip)))
            (.seq (.reg [
               ⟨(some 48), .mv (.t 0), none, [], false⟩,
               ⟨(some 49), .mv (.t 1), none, [], false⟩,
               ⟨(some 50), .mv (.t 2), none, [], false⟩,
               ⟨(some 51), .mv (.t 4), none, [], false⟩,
               ⟨(some 52), .call (.k (.fn 136 [])) [(.t 48), (.t 49), (.t 50), (.t 51)], none, [], false⟩,
               ⟨(some 47), .mv (.t 52), none, [], false⟩,
               ⟨(some 53), .ext (.t 47) 0, none, [], false⟩,
               ⟨(some 54), .ext (.t 47) 1, none, [], false⟩,
               ⟨(some 13), .mv (.t 53), none, [], false⟩,
               ⟨(some 14), .mv (.t 54), none, [], false⟩])
             (.seq (.seq (.reg [
                 ⟨(some 55), .mv (.t 14), none, [], false⟩,
                 ⟨(some 56), .bin .eql (.t 55) (.k (.int .i64 2)), none, [], false⟩])
               (.cond (.t 56) (.seq (.reg [
                   ⟨(some 57), .mv (.t 0), none, [], false⟩,
                   ⟨(some 58), .mv (.t 1), none, [], false⟩,
                   ⟨(some 59), .mv (.t 2), none, [], false⟩,
                   ⟨(some 60), .mv (.t 4), none, [], false⟩,
                   ⟨(some 61), .call (.k (.fn 137 [])) [(.t 57), (.t 58), (.t 59), (.t 60)], none, [], false⟩])
                 (.seq (.reg [
                    ⟨(some 62), .mv (.t 2), none, [], false⟩,
                    ⟨(some 63), .bin .sub (.t 62) (.k (.int .i64 1)), none, [], false⟩,
                    ⟨(some 64), .mv (.t 13), none, [], false⟩,
                    ⟨(some 65), .mv (.t 1), none, [], false⟩,
                    ⟨(some 66), .bin .sub (.t 64) (.t 65), none, [], false⟩,
                    ⟨(some 67), .bin .sub (.t 63) (.t 66), none, [], false⟩,
                    ⟨(some 13), .mv (.t 67), none, [], false⟩])
                  (.reg [
                    ⟨(some 14), .mv (.k (.int .i64 1)), none, [], false⟩])))
                (.skip)))
              (.seq (.seq (.reg [
                  ⟨(some 68), .mv (.t 10), none, [], false⟩,
                  ⟨(some 69), .mv (.t 68), none, [], false⟩,
                  ⟨(some 70), .mv (.t 11), (some (69, true)), [], false⟩,
                  ⟨(some 71), .pick (.t 69) (.t 70) (.k (.bool false)), none, [], false⟩,
                  ⟨(some 72), .mv (.t 71), none, [], false⟩,
                  ⟨(some 73), .mv (.t 14), (some (72, true)), [], false⟩,
                  ⟨(some 74), .bin .eql (.t 73) (.k (.int .i64 1)), (some (72, true)), [], false⟩,
                  ⟨(some 75), .pick (.t 72) (.t 74) (.k (.bool false)), none, [], false⟩])
                (.cond (.t 75) (.seq (.reg [
                    ⟨(some 76), .mv (.t 0), none, [], false⟩,
                    ⟨(some 77), .mv (.t 1), none, [], false⟩,
                    ⟨(some 78), .mv (.t 2), none, [], false⟩,
                    ⟨(some 79), .mv (.t 4), none, [], false⟩,
                    ⟨(some 80), .call (.k (.fn 138 [])) [(.t 76), (.t 77), (.t 78), (.t 79)], none, [], false⟩])
                  (.cond (.t 80) (.ret)
                   (.skip)))
                 (.skip)))
               (.seq (.seq (.reg [
                   ⟨(some 81), .mv (.t 1), none, [], false⟩,
                   ⟨(some 82), .bin .gtr (.t 81) (.k (.int .i64 0)), none, [], false⟩,
                   ⟨(some 83), .mv (.t 82), none, [], false⟩,
                   ⟨(some 84), .mv (.t 4), (some (83, true)), [], false⟩,
                   ⟨(some 85), .mv (.t 0), (some (83, true)), [], false⟩,
                   ⟨(some 86), .mv (.t 1), (some (83, true)), [], false⟩,
                   ⟨(some 87), .bin .sub (.t 86) (.k (.int .i64 1)), (some (83, true)), [], false⟩,
                   ⟨(some 88), .iad 6 (.t 85) (.t 87), (some (83, true)), [], false⟩,
                   ⟨(some 89), .ldn 6 (.t 88), (some (83, true)), [], false⟩,
                   ⟨(some 90), .mv (.t 0), (some (83, true)), [], false⟩,
                   ⟨(some 91), .mv (.t 13), (some (83, true)), [], false⟩,
                   ⟨(some 92), .iad 6 (.t 90) (.t 91), (some (83, true)), [], false⟩,
                   ⟨(some 93), .ldn 6 (.t 92), (some (83, true)), [], false⟩,
                   ⟨(some 94), .call (.t 84) [(.t 89), (.t 93)], (some (83, true)), [], false⟩,
                   ⟨(some 95), .bin .lss (.t 94) (.k (.int .i64 0)), (some (83, true)), [], false⟩,
                   ⟨(some 96), .un .not (.t 95), (some (83, true)), [], false⟩,
                   ⟨(some 97), .pick (.t 83) (.t 96) (.k (.bool false)), none, [], false⟩])
                 (.cond (.t 97) (.seq (.reg [
                     ⟨(some 98), .mv (.t 0), none, [], false⟩,
                     ⟨(some 99), .mv (.t 1), none, [], false⟩,
                     ⟨(some 100), .mv (.t 2), none, [], false⟩,
                     ⟨(some 101), .mv (.t 13), none, [], false⟩,
                     ⟨(some 102), .mv (.t 4), none, [], false⟩,
                     ⟨(some 103), .call (.k (.fn 139 [])) [(.t 98), (.t 99), (.t 100), (.t 101), (.t 102)], none, [], false⟩,
                     ⟨(some 15), .mv (.t 103), none, [], false⟩])
                   (.seq (.reg [
                      ⟨(some 104), .mv (.t 15), none, [], false⟩,
                      ⟨(some 1), .mv (.t 104), none, [], false⟩])
                    (.exit 1)))
                  (.skip)))
                (.seq (.reg [
                   ⟨(some 106), .mv (.t 0), none, [], false⟩,
                   ⟨(some 107), .mv (.t 1), none, [], false⟩,
                   ⟨(some 108), .mv (.t 2), none, [], false⟩,
                   ⟨(some 109), .mv (.t 13), none, [], false⟩,
                   ⟨(some 110), .mv (.t 4), none, [], false⟩,
                   ⟨(some 111), .call (.k (.fn 140 [])) [(.t 106), (.t 107), (.t 108), (.t 109), (.t 110)], none, [], false⟩,
                   ⟨(some 105), .mv (.t 111), none, [], false⟩,
                   ⟨(some 112), .ext (.t 105) 0, none, [], false⟩,
                   ⟨(some 113), .ext (.t 105) 1, none, [], false⟩,
                   ⟨(some 16), .mv (.t 112), none, [], false⟩,
                   ⟨(some 17), .mv (.t 113), none, [], false⟩])
                 (.seq (.reg [
                    ⟨(some 114), .mv (.t 17), none, [], false⟩,
                    ⟨(some 11), .mv (.t 114), none, [], false⟩])
                  (.seq (.reg [
                     ⟨(some 115), .mv (.t 16), none, [], false⟩,
                     ⟨(some 116), .mv (.t 1), none, [], false⟩,
                     ⟨(some 117), .bin .sub (.t 115) (.t 116), none, [], false⟩,
                     ⟨(some 118), .mv (.t 2), none, [], false⟩,
                     ⟨(some 119), .mv (.t 16), none, [], false⟩,
                     ⟨(some 120), .bin .sub (.t 118) (.t 119), none, [], false⟩,
                     ⟨(some 18), .mv (.t 117), none, [], false⟩,
                     ⟨(some 19), .mv (.t 120), none, [], false⟩])
                   (.seq (.reg [
                      ⟨(some 121), .mv (.t 12), none, [], false⟩,
                      ⟨(some 122), .bin .quo (.t 121) (.k (.int .i64 8)), none, [], false⟩,
                      ⟨(some 20), .mv (.t 122), none, [], false⟩])
                    (.seq (.reg [
                       ⟨(some 123), .mv (.t 18), none, [], false⟩,
                       ⟨(some 124), .mv (.t 19), none, [], false⟩,
                       ⟨(some 125), .bin .lss (.t 123) (.t 124), none, [], false⟩])
                     (.cond (.t 125) (.seq (.reg [
                         ⟨(some 126), .mv (.t 18), none, [], false⟩,
                         ⟨(some 127), .mv (.t 20), none, [], false⟩,
                         ⟨(some 128), .bin .geq (.t 126) (.t 127), none, [], false⟩,
                         ⟨(some 10), .mv (.t 128), none, [], false⟩])
                       (.seq (.reg [
                          ⟨(some 129), .mv (.t 0), none, [], false⟩,
                          ⟨(some 130), .mv (.t 1), none, [], false⟩,
                          ⟨(some 131), .mv (.t 16), none, [], false⟩,
                          ⟨(some 132), .mv (.t 3), none, [], false⟩,
                          ⟨(some 133), .mv (.t 4), none, [], false⟩,
                          ⟨(some 134), .call (.k (.fn 112 [])) [(.t 129), (.t 130), (.t 131), (.t 132), (.t 133)], none, [], false⟩])
                        (.reg [
                          ⟨(some 135), .mv (.t 16), none, [], false⟩,
                          ⟨(some 136), .bin .add (.t 135) (.k (.int .i64 1)), none, [], false⟩,
                          ⟨(some 1), .mv (.t 136), none, [], false⟩])))
                      (.seq (.reg [
                         ⟨(some 137), .mv (.t 19), none, [], false⟩,
                         ⟨(some 138), .mv (.t 20), none, [], false⟩,
                         ⟨(some 139), .bin .geq (.t 137) (.t 138), none, [], false⟩,
                         ⟨(some 10), .mv (.t 139), none, [], false⟩])
                       (.seq (.reg [
                          ⟨(some 140), .mv (.t 0), none, [], false⟩,
                          ⟨(some 141), .mv (.t 16), none, [], false⟩,
                          ⟨(some 142), .bin .add (.t 141) (.k (.int .i64 1)), none, [], false⟩,
                          ⟨(some 143), .mv (.t 2), none, [], false⟩,
                          ⟨(some 144), .mv (.t 3), none, [], false⟩,
                          ⟨(some 145), .mv (.t 4), none, [], false⟩,
                          ⟨(some 146), .call (.k (.fn 112 [])) [(.t 140), (.t 142), (.t 143), (.t 144), (.t 145)], none, [], false⟩])
                        (.reg [
                          ⟨(some 147), .mv (.t 16), none, [], false⟩,
                          ⟨(some 2), .mv (.t 147), none, [], false⟩])))))))))))))))))))))
/-- slices.SortFunc[[]skyway/api.Plot,skyway/api.Plot] -/
def c82 : CF where
  np := 2
  nt := 14
  res := []
  code := .seq (.reg [
      ⟨(some 5), .mv (.t 0), none, [], false⟩,
      ⟨(some 6), .lenv false (.t 5), none, [], false⟩,
      ⟨(some 4), .mv (.t 6), none, [], false⟩])
    (.reg [
      ⟨(some 7), .mv (.t 0), none, [], false⟩,
      ⟨(some 8), .mv (.t 4), none, [], false⟩,
      ⟨(some 9), .mv (.t 4), none, [], false⟩,
      ⟨(some 10), .cvi .u64 (.t 9), none, [], false⟩,
      ⟨(some 11), .call (.k (.fn 109 [])) [(.t 10)], none, [], false⟩,
      ⟨(some 12), .mv (.t 1), none, [], false⟩,
      ⟨(some 13), .call (.k (.fn 112 [])) [(.t 7), (.k (.int .i64 0)), (.t 8), (.t 11), (.t 12)], none, [], false⟩])
/-- cmp.isNaN[int] -/
def c104 : CF where
  np := 1
  nt := 6
  res := [.t 2]
  code := .seq (.reg [
      ⟨(some 2), .mv (.k (.bool false)), none, [], false⟩])
    (.seq (.reg [
       ⟨(some 3), .mv (.t 0), none, [], false⟩,
       ⟨(some 4), .mv (.t 0), none, [], false⟩,
       ⟨(some 5), .bin .neq (.t 3) (.t 4), none, [], false⟩,
       ⟨(some 2), .mv (.t 5), none, [], false⟩])
     (.ret))
/-- cmp.Compare[int] -/
def c85 : CF where
  np := 2
  nt := 20
  res := [.t 4]
  code := .seq (.reg [
      ⟨(some 4), .mv (.k (.int .i64 0)), none, [], false⟩])
    (.seq (.reg [
       ⟨(some 7), .mv (.t 0), none, [], false⟩,
       ⟨(some 8), .call (.k (.fn 104 [])) [(.t 7)], none, [], false⟩,
       ⟨(some 5), .mv (.t 8), none, [], false⟩])
     (.seq (.reg [
        ⟨(some 9), .mv (.t 1), none, [], false⟩,
        ⟨(some 10), .call (.k (.fn 104 [])) [(.t 9)], none, [], false⟩,
        ⟨(some 6), .mv (.t 10), none, [], false⟩])
      (.seq (.seq (.reg [
          ⟨(some 11), .mv (.t 5), none, [], false⟩])
        (.cond (.t 11) (.seq (.seq (.reg [
             ⟨(some 12), .mv (.t 6), none, [], false⟩])
           (.cond (.t 12) (.seq (.reg [
               ⟨(some 4), .mv (.k (.int .i64 0)), none, [], false⟩])
             (.ret))
            (.skip)))
          (.seq (.reg [
             ⟨(some 4), .mv (.k (.int .i64 (-1))), none, [], false⟩])
           (.ret)))
         (.skip)))
       (.seq (.seq (.reg [
           ⟨(some 13), .mv (.t 6), none, [], false⟩])
         (.cond (.t 13) (.seq (.reg [
             ⟨(some 4), .mv (.k (.int .i64 1)), none, [], false⟩])
           (.ret))
          (.skip)))
        (.seq (.seq (.reg [
            ⟨(some 14), .mv (.t 0), none, [], false⟩,
            ⟨(some 15), .mv (.t 1), none, [], false⟩,
            ⟨(some 16), .bin .lss (.t 14) (.t 15), none, [], false⟩])
          (.cond (.t 16) (.seq (.reg [
              ⟨(some 4), .mv (.k (.int .i64 (-1))), none, [], false⟩])
            (.ret))
           (.skip)))
         (.seq (.seq (.reg [
             ⟨(some 17), .mv (.t 0), none, [], false⟩,
             ⟨(some 18), .mv (.t 1), none, [], false⟩,
             ⟨(some 19), .bin .gtr (.t 17) (.t 18), none, [], false⟩])
           (.cond (.t 19) (.seq (.reg [
               ⟨(some 4), .mv (.k (.int .i64 1)), none, [], false⟩])
             (.ret))
            (.skip)))
          (.seq (.reg [
             ⟨(some 4), .mv (.k (.int .i64 0)), none, [], false⟩])
           (.ret))))))))
/-- cmp.Or[int] -/
def c84 : CF where
  np := 1
  nt := 18
  res := [.t 2]
  code := .seq (.reg [
      ⟨(some 2), .mv (.k (.int .i64 0)), none, [], false⟩])
    (.seq (.reg [
       ⟨(some 3), .mv (.k (.int .i64 0)), none, [], false⟩])
     (.seq (.seq (.reg [
         ⟨(some 6), .mv (.t 0), none, [], false⟩,
         ⟨(some 7), .lenv false (.t 6), none, [], false⟩,
         ⟨(some 8), .mv (.k (.int .i64 0)), none, [], false⟩])
       (.blk 0 (.loop (.seq (.reg [
            ⟨(some 9), .bin .lss (.t 8) (.t 7), none, [], false⟩])
          (.seq (.cond (.t 9) (.skip)
            (.exit 0))
           (.seq (.blk 1 (.seq (.reg [
                ⟨(some 10), .iad 1 (.t 6) (.t 8), none, [], false⟩,
                ⟨(some 11), .ld1 (.t 10), none, [], false⟩,
                ⟨(some 5), .mv (.t 11), none, [], false⟩])
              (.seq (.reg [
                 ⟨(some 12), .mv (.t 5), none, [], false⟩,
                 ⟨(some 13), .mv (.t 3), none, [], false⟩,
                 ⟨(some 14), .bin .neq (.t 12) (.t 13), none, [], false⟩])
               (.cond (.t 14) (.seq (.reg [
                   ⟨(some 15), .mv (.t 5), none, [], false⟩,
                   ⟨(some 2), .mv (.t 15), none, [], false⟩])
                 (.ret))
                (.skip)))))
            (.reg [
              ⟨(some 16), .bin .add (.t 8) (.k (.int .i64 1)), none, [], false⟩,
              ⟨(some 8), .mv (.t 16), none, [], false⟩])))))))
      (.seq (.reg [
         ⟨(some 17), .mv (.t 3), none, [], false⟩,
         ⟨(some 2), .mv (.t 17), none, [], false⟩])
       (.ret))))
/-- skyway/mosaic.Compare -/
def c42 : CF where
  np := 2
  nt := 37
  res := [.t 4]
  code := .seq (.reg [
      ⟨(some 2), .box (.t 0), none, [], false⟩,
      ⟨(some 3), .box (.t 1), none, [], false⟩,
      ⟨(some 4), .mv (.k (.int .i64 0)), none, [], false⟩])
    (.seq (.reg [
       ⟨(some 5), .fad 1 (.t 2), none, [], false⟩,
       ⟨(some 6), .ld1 (.t 5), none, [], false⟩,
       ⟨(some 7), .fad 1 (.t 3), none, [], false⟩,
       ⟨(some 8), .ld1 (.t 7), none, [], false⟩,
       ⟨(some 10), .fad 0 (.t 2), none, [], false⟩,
       ⟨(some 11), .ld1 (.t 10), none, [], false⟩,
       ⟨(some 12), .fad 0 (.t 3), none, [], false⟩,
       ⟨(some 13), .ld1 (.t 12), none, [], false⟩,
       ⟨(some 15), .fad 2 (.t 2), none, [], false⟩,
       ⟨(some 16), .ld1 (.t 15), none, [], false⟩,
       ⟨(some 17), .fad 2 (.t 3), none, [], false⟩,
       ⟨(some 18), .ld1 (.t 17), none, [], false⟩,
       ⟨(some 20), .fad 3 (.t 2), none, [], false⟩,
       ⟨(some 21), .ld1 (.t 20), none, [], false⟩,
       ⟨(some 22), .fad 3 (.t 3), none, [], false⟩,
       ⟨(some 23), .ld1 (.t 22), none, [], false⟩,
       ⟨(some 25), .fad 4 (.t 2), none, [], false⟩,
       ⟨(some 26), .ld1 (.t 25), none, [], false⟩,
       ⟨(some 27), .fad 4 (.t 3), none, [], false⟩,
       ⟨(some 28), .ld1 (.t 27), none, [], false⟩,
       ⟨(some 30), .fad 5 (.t 2), none, [], false⟩,
       ⟨(some 31), .ld1 (.t 30), none, [], false⟩,
       ⟨(some 32), .fad 5 (.t 3), none, [], false⟩,
       ⟨(some 33), .ld1 (.t 32), none, [], false⟩,
       ⟨(some 9), .call (.k (.fn 85 [])) [(.t 6), (.t 8)], none, [], true⟩,
       ⟨(some 14), .call (.k (.fn 85 [])) [(.t 11), (.t 13)], none, [], true⟩,
       ⟨(some 19), .call (.k (.fn 85 [])) [(.t 16), (.t 18)], none, [], true⟩,
       ⟨(some 24), .call (.k (.fn 85 [])) [(.t 21), (.t 23)], none, [], true⟩,
       ⟨(some 29), .call (.k (.fn 85 [])) [(.t 26), (.t 28)], none, [], true⟩,
       ⟨(some 34), .call (.k (.fn 85 [])) [(.t 31), (.t 33)], none, [], false⟩,
       ⟨(some 35), .mks [.int .i64 0, .int .i64 0, .int .i64 0, .int .i64 0, .int .i64 0, .int .i64 0] 1 6 [(0, 1, (.t 9)), (1, 1, (.t 14)), (2, 1, (.t 19)), (3, 1, (.t 24)), (4, 1, (.t 29)), (5, 1, (.t 34))], none, [], false⟩,
       ⟨(some 36), .call (.k (.fn 84 [])) [(.t 35)], none, [], false⟩,
       ⟨(some 4), .mv (.t 36), none, [], false⟩])
     (.ret))
/-- slices.Compact[[]skyway/api.Plot,skyway/api.Plot] -/
def c83 : CF where
  np := 1
  nt := 61
  res := [.t 2]
  code := .seq (.reg [
      ⟨(some 2), .mv (.k (.sl true 0 0 0 0 0)), none, [], false⟩])
    (.seq (.seq (.reg [
        ⟨(some 6), .mv (.t 0), none, [], false⟩,
        ⟨(some 7), .lenv false (.t 6), none, [], false⟩,
        ⟨(some 8), .bin .lss (.t 7) (.k (.int .i64 2)), none, [], false⟩])
      (.cond (.t 8) (.seq (.reg [
          ⟨(some 9), .mv (.t 0), none, [], false⟩,
          ⟨(some 2), .mv (.t 9), none, [], false⟩])
        (.ret))
       (.skip)))
     (.seq (.seq (.reg [
         ⟨(some 3), .mv (.k (.int .i64 1)), none, [], false⟩])
       (.blk 0 (.loop (.seq (.seq (.reg [
             ⟨(some 10), .mv (.t 3), none, [], false⟩,
             ⟨(some 11), .mv (.t 0), none, [], false⟩,
             ⟨(some 12), .lenv false (.t 11), none, [], false⟩,
             ⟨(some 13), .bin .lss (.t 10) (.t 12), none, [], false⟩])
           (.cond (.t 13) (.skip)
            (.exit 0)))
          (.seq (.blk 1 (.seq (.reg [
               ⟨(some 16), .mv (.t 0), none, [], false⟩,
               ⟨(some 17), .mv (.t 3), none, [], false⟩,
               ⟨(some 18), .iad 6 (.t 16) (.t 17), none, [], false⟩,
               ⟨(some 19), .ldn 6 (.t 18), none, [], false⟩,
               ⟨(some 20), .mv (.t 0), none, [], false⟩,
               ⟨(some 21), .mv (.t 3), none, [], false⟩,
               ⟨(some 22), .bin .sub (.t 21) (.k (.int .i64 1)), none, [], false⟩,
               ⟨(some 23), .iad 6 (.t 20) (.t 22), none, [], false⟩,
               ⟨(some 24), .ldn 6 (.t 23), none, [], false⟩,
               ⟨(some 25), .eqs false (some [.i, .i, .i, .i, .i, .i]) (.t 19) (.t 24), none, [], false⟩])
             (.cond (.t 25) (.seq (.reg [
                 ⟨(some 26), .mv (.t 0), none, [], false⟩,
                 ⟨(some 27), .mv (.t 3), none, [], false⟩,
                 ⟨(some 28), .slc 6 (.t 26) (some (.t 27)) none, none, [], false⟩,
                 ⟨(some 4), .mv (.t 28), none, [], false⟩])
               (.seq (.seq (.reg [
                   ⟨(some 5), .mv (.k (.int .i64 1)), none, [], false⟩])
                 (.blk 2 (.loop (.seq (.seq (.reg [
                       ⟨(some 29), .mv (.t 5), none, [], false⟩,
                       ⟨(some 30), .mv (.t 4), none, [], false⟩,
                       ⟨(some 31), .lenv false (.t 30), none, [], false⟩,
                       ⟨(some 32), .bin .lss (.t 29) (.t 31), none, [], false⟩])
                     (.cond (.t 32) (.skip)
                      (.exit 2)))
                    (.seq (.blk 3 (.seq (.reg [
                         ⟨(some 35), .mv (.t 4), none, [], false⟩,
                         ⟨(some 36), .mv (.t 5), none, [], false⟩,
                         ⟨(some 37), .iad 6 (.t 35) (.t 36), none, [], false⟩,
                         ⟨(some 38), .ldn 6 (.t 37), none, [], false⟩,
                         ⟨(some 39), .mv (.t 4), none, [], false⟩,
                         ⟨(some 40), .mv (.t 5), none, [], false⟩,
                         ⟨(some 41), .bin .sub (.t 40) (.k (.int .i64 1)), none, [], false⟩,
                         ⟨(some 42), .iad 6 (.t 39) (.t 41), none, [], false⟩,
                         ⟨(some 43), .ldn 6 (.t 42), none, [], false⟩,
                         ⟨(some 44), .eqs true (some [.i, .i, .i, .i, .i, .i]) (.t 38) (.t 43), none, [], false⟩])
                       (.cond (.t 44) (.seq (.reg [
                           ⟨(some 45), .mv (.t 0), none, [], false⟩,
                           ⟨(some 46), .mv (.t 3), none, [], false⟩,
                           ⟨(some 47), .mv (.t 4), none, [], false⟩,
                           ⟨(some 48), .mv (.t 5), none, [], false⟩,
                           ⟨(some 49), .iad 6 (.t 47) (.t 48), none, [], false⟩,
                           ⟨(some 50), .ldn 6 (.t 49), none, [], false⟩,
                           ⟨(some 51), .iad 6 (.t 45) (.t 46), none, [], false⟩,
                           ⟨none, .st 6 (.t 51) (.t 50), none, [], false⟩])
                         (.reg [
                           ⟨(some 52), .mv (.t 3), none, [], false⟩,
                           ⟨(some 53), .bin .add (.t 52) (.k (.int .i64 1)), none, [], false⟩,
                           ⟨(some 3), .mv (.t 53), none, [], false⟩]))
                        (.skip))))
                     (.reg [
                       ⟨(some 33), .mv (.t 5), none, [], false⟩,
                       ⟨(some 34), .bin .add (.t 33) (.k (.int .i64 1)), none, [], false⟩,
                       ⟨(some 5), .mv (.t 34), none, [], false⟩]))))))
                (.seq (.reg [
                   ⟨(some 54), .mv (.t 0), none, [], false⟩,
                   ⟨(some 55), .mv (.t 3), none, [], false⟩,
                   ⟨(some 56), .slc 6 (.t 54) (some (.t 55)) none, none, [], false⟩,
                   ⟨none, .clr [.int .i64 0, .int .i64 0, .int .i64 0, .int .i64 0, .int .i64 0, .int .i64 0] (.t 56), none, [], false⟩])
                 (.seq (.reg [
                    ⟨(some 57), .mv (.t 0), none, [], false⟩,
                    ⟨(some 58), .mv (.t 3), none, [], false⟩,
                    ⟨(some 59), .slc 6 (.t 57) none (some (.t 58)), none, [], false⟩,
                    ⟨(some 2), .mv (.t 59), none, [], false⟩])
                  (.ret)))))
              (.skip))))
           (.reg [
             ⟨(some 14), .mv (.t 3), none, [], false⟩,
             ⟨(some 15), .bin .add (.t 14) (.k (.int .i64 1)), none, [], false⟩,
             ⟨(some 3), .mv (.t 15), none, [], false⟩]))))))
      (.seq (.reg [
         ⟨(some 60), .mv (.t 0), none, [], false⟩,
         ⟨(some 2), .mv (.t 60), none, [], false⟩])
       (.ret))))
/-- skyway/mosaic.Merge -/
def c41 : CF where
  np := 1
  nt := 56
  res := [.t 2, .t 3]
  code := .seq (.reg [
      ⟨(some 2), .mv (.k (.sl true 0 0 0 0 0)), none, [], false⟩,
      ⟨(some 3), .mv (.k (.int .i64 0)), none, [], false⟩])
    (.seq (.seq (.reg [
        ⟨(some 10), .mv (.t 0), none, [], false⟩,
        ⟨(some 11), .lenv false (.t 10), none, [], false⟩,
        ⟨(some 12), .bin .gtr (.t 11) (.k (.int .i64 4)), none, [], false⟩])
      (.cond (.t 12) (.seq (.reg [
          ⟨(some 2), .mv (.k (.sl true 0 0 0 0 0)), none, [], false⟩,
          ⟨(some 3), .mv (.k (.int .i64 2)), none, [], false⟩])
        (.ret))
       (.skip)))
     (.seq (.reg [
        ⟨(some 4), .mv (.k (.sl true 0 0 0 0 0)), none, [], false⟩])
      (.seq (.seq (.reg [
          ⟨(some 13), .mv (.t 0), none, [], false⟩,
          ⟨(some 14), .lenv false (.t 13), none, [], false⟩,
          ⟨(some 15), .mv (.k (.int .i64 0)), none, [], false⟩])
        (.blk 0 (.loop (.seq (.reg [
             ⟨(some 16), .bin .lss (.t 15) (.t 14), none, [], false⟩])
           (.seq (.cond (.t 16) (.skip)
             (.exit 0))
            (.seq (.blk 1 (.seq (.reg [
                 ⟨(some 17), .iad 1 (.t 13) (.t 15), none, [], false⟩,
                 ⟨(some 18), .ld1 (.t 17), none, [], false⟩,
                 ⟨(some 6), .mv (.t 18), none, [], false⟩])
               (.seq (.seq (.reg [
                   ⟨(some 19), .mv (.t 6), none, [], false⟩,
                   ⟨(some 20), .lenv false (.t 19), none, [], false⟩,
                   ⟨(some 21), .bin .gtr (.t 20) (.k (.int .i64 256)), none, [], false⟩])
                 (.cond (.t 21) (.seq (.reg [
                     ⟨(some 2), .mv (.k (.sl true 0 0 0 0 0)), none, [], false⟩,
                     ⟨(some 3), .mv (.k (.int .i64 2)), none, [], false⟩])
                   (.ret))
                  (.skip)))
                (.seq (.seq (.reg [
                    ⟨(some 22), .mv (.t 6), none, [], false⟩,
                    ⟨(some 23), .lenv false (.t 22), none, [], false⟩,
                    ⟨(some 24), .mv (.k (.int .i64 0)), none, [], false⟩])
                  (.blk 2 (.loop (.seq (.reg [
                       ⟨(some 25), .bin .lss (.t 24) (.t 23), none, [], false⟩])
                     (.seq (.cond (.t 25) (.skip)
                       (.exit 2))
                      (.seq (.blk 3 (.seq (.reg [
                           ⟨(some 26), .mv (.t 24), none, [], false⟩,
                           ⟨(some 27), .iad 6 (.t 22) (.t 24), none, [], false⟩,
                           ⟨(some 28), .ldn 6 (.t 27), none, [], false⟩,
                           ⟨(some 8), .new [.int .i64 0, .int .i64 0, .int .i64 0, .int .i64 0, .int .i64 0, .int .i64 0], none, [], false⟩,
                           ⟨(some 7), .mv (.t 26), none, [], false⟩,
                           ⟨none, .st 6 (.t 8) (.t 28), none, [], false⟩])
                         (.seq (.seq (.reg [
                             ⟨(some 29), .ldn 6 (.t 8), none, [], false⟩,
                             ⟨(some 30), .call (.k (.fn 35 [])) [(.t 29)], none, [], false⟩,
                             ⟨(some 9), .mv (.t 30), none, [], false⟩])
                           (.seq (.reg [
                              ⟨(some 31), .mv (.t 9), none, [], false⟩,
                              ⟨(some 32), .bin .neq (.t 31) (.k (.int .i64 0)), none, [], false⟩])
                            (.cond (.t 32) (.seq (.reg [
                                ⟨(some 33), .mv (.t 9), none, [], false⟩,
                                ⟨(some 2), .mv (.k (.sl true 0 0 0 0 0)), none, [], false⟩,
                                ⟨(some 3), .mv (.t 33), none, [], false⟩])
                              (.ret))
                             (.skip))))
                          (.seq (.reg [
                             ⟨(some 34), .mv (.t 7), none, [], false⟩,
                             ⟨(some 35), .bin .gtr (.t 34) (.k (.int .i64 0)), none, [], false⟩,
                             ⟨(some 36), .mv (.t 35), none, [], false⟩,
                             ⟨(some 37), .mv (.t 6), (some (36, true)), [], false⟩,
                             ⟨(some 38), .mv (.t 7), (some (36, true)), [], false⟩,
                             ⟨(some 39), .bin .sub (.t 38) (.k (.int .i64 1)), (some (36, true)), [], false⟩,
                             ⟨(some 40), .iad 6 (.t 37) (.t 39), (some (36, true)), [], false⟩,
                             ⟨(some 41), .fad 1 (.t 40), (some (36, true)), [], false⟩,
                             ⟨(some 42), .ld1 (.t 41), (some (36, true)), [], false⟩,
                             ⟨(some 43), .fad 1 (.t 8), (some (36, true)), [], false⟩,
                             ⟨(some 44), .ld1 (.t 43), (some (36, true)), [], false⟩,
                             ⟨(some 45), .bin .gtr (.t 42) (.t 44), (some (36, true)), [], false⟩,
                             ⟨(some 46), .pick (.t 36) (.t 45) (.k (.bool false)), none, [], false⟩])
                           (.cond (.t 46) (.seq (.reg [
                               ⟨(some 2), .mv (.k (.sl true 0 0 0 0 0)), none, [], false⟩,
                               ⟨(some 3), .mv (.k (.int .i64 12)), none, [], false⟩])
                             (.ret))
                            (.skip))))))
                       (.reg [
                         ⟨(some 47), .bin .add (.t 24) (.k (.int .i64 1)), none, [], false⟩,
                         ⟨(some 24), .mv (.t 47), none, [], false⟩])))))))
                 (.reg [
                   ⟨(some 48), .mv (.t 4), none, [], false⟩,
                   ⟨(some 49), .mv (.t 6), none, [], false⟩,
                   ⟨(some 50), .app 6 48 (.t 48) (.t 49), none, [], false⟩,
                   ⟨(some 4), .mv (.t 50), none, [], false⟩])))))
             (.reg [
               ⟨(some 51), .bin .add (.t 15) (.k (.int .i64 1)), none, [], false⟩,
               ⟨(some 15), .mv (.t 51), none, [], false⟩])))))))
       (.seq (.reg [
          ⟨(some 52), .mv (.t 4), none, [], false⟩,
          ⟨(some 53), .call (.k (.fn 82 [])) [(.t 52), (.k (.fn 42 []))], none, [], false⟩])
        (.seq (.reg [
           ⟨(some 54), .mv (.t 4), none, [], false⟩,
           ⟨(some 55), .call (.k (.fn 83 [])) [(.t 54)], none, [], false⟩,
           ⟨(some 2), .mv (.t 55), none, [], false⟩,
           ⟨(some 3), .mv (.k (.int .i64 0)), none, [], false⟩])
         (.ret))))))
/-- slices.IndexFunc[[]skyway/api.Errno,skyway/api.Errno] -/
def c111 : CF where
  np := 2
  nt := 19
  res := [.t 4]
  code := .seq (.reg [
      ⟨(some 4), .mv (.k (.int .i64 0)), none, [], false⟩])
    (.seq (.seq (.reg [
        ⟨(some 6), .mv (.t 0), none, [], false⟩,
        ⟨(some 7), .lenv false (.t 6), none, [], false⟩,
        ⟨(some 8), .mv (.k (.int .i64 0)), none, [], false⟩])
      (.blk 0 (.loop (.seq (.reg [
           ⟨(some 9), .bin .lss (.t 8) (.t 7), none, [], false⟩])
         (.seq (.cond (.t 9) (.skip)
           (.exit 0))
          (.seq (.blk 1 (.seq (.reg [
               ⟨(some 10), .mv (.t 8), none, [], false⟩,
               ⟨(some 5), .mv (.t 10), none, [], false⟩])
             (.seq (.reg [
                ⟨(some 11), .mv (.t 1), none, [], false⟩,
                ⟨(some 12), .mv (.t 0), none, [], false⟩,
                ⟨(some 13), .mv (.t 5), none, [], false⟩,
                ⟨(some 14), .iad 1 (.t 12) (.t 13), none, [], false⟩,
                ⟨(some 15), .ld1 (.t 14), none, [], false⟩,
                ⟨(some 16), .call (.t 11) [(.t 15)], none, [], false⟩])
              (.cond (.t 16) (.seq (.reg [
                  ⟨(some 17), .mv (.t 5), none, [], false⟩,
                  ⟨(some 4), .mv (.t 17), none, [], false⟩])
                (.ret))
               (.skip)))))
           (.reg [
             ⟨(some 18), .bin .add (.t 8) (.k (.int .i64 1)), none, [], false⟩,
             ⟨(some 8), .mv (.t 18), none, [], false⟩])))))))
     (.seq (.reg [
        ⟨(some 4), .mv (.k (.int .i64 (-1))), none, [], false⟩])
      (.ret)))
/-- slices.ContainsFunc[[]skyway/api.Errno,skyway/api.Errno] -/
def c80 : CF where
  np := 2
  nt := 9
  res := [.t 4]
  code := .seq (.reg [
      ⟨(some 4), .mv (.k (.bool false)), none, [], false⟩])
    (.seq (.reg [
       ⟨(some 5), .mv (.t 0), none, [], false⟩,
       ⟨(some 6), .mv (.t 1), none, [], false⟩,
       ⟨(some 7), .call (.k (.fn 111 [])) [(.t 5), (.t 6)], none, [], false⟩,
       ⟨(some 8), .bin .geq (.t 7) (.k (.int .i64 0)), none, [], false⟩,
       ⟨(some 4), .mv (.t 8), none, [], false⟩])
     (.ret))
/-- skyway/skywaykeep2.fine$1 -/
def c81 : CF where
  np := 1
  nt := 5
  res := [.t 2]
  code := .seq (.reg [
      ⟨(some 2), .mv (.k (.bool false)), none, [], false⟩])
    (.seq (.reg [
       ⟨(some 3), .mv (.t 0), none, [], false⟩,
       ⟨(some 4), .bin .neq (.t 3) (.k (.int .i64 0)), none, [], false⟩,
       ⟨(some 2), .mv (.t 4), none, [], false⟩])
     (.ret))
/-- skyway/skywaykeep2.fine -/
def c39 : CF where
  np := 1
  nt := 6
  res := [.t 2]
  code := .seq (.reg [
      ⟨(some 2), .mv (.k (.bool false)), none, [], false⟩])
    (.seq (.reg [
       ⟨(some 3), .mv (.t 0), none, [], false⟩,
       ⟨(some 4), .call (.k (.fn 80 [])) [(.t 3), (.k (.fn 81 []))], none, [], false⟩,
       ⟨(some 5), .un .not (.t 4), none, [], false⟩,
       ⟨(some 2), .mv (.t 5), none, [], false⟩])
     (.ret))
/-- skyway/mosaic.Window -/
def c43 : CF where
  np := 3
  nt := 42
  res := [.t 6, .t 7]
  code := .seq (.reg [
      ⟨(some 6), .mv (.k (.sl true 0 0 0 0 0)), none, [], false⟩,
      ⟨(some 7), .mv (.k (.int .i64 0)), none, [], false⟩])
    (.seq (.seq (.reg [
        ⟨(some 12), .mv (.t 0), none, [], false⟩,
        ⟨(some 13), .lenv false (.t 12), none, [], false⟩,
        ⟨(some 14), .bin .gtr (.t 13) (.k (.int .i64 1024)), none, [], false⟩])
      (.cond (.t 14) (.seq (.reg [
          ⟨(some 6), .mv (.k (.sl true 0 0 0 0 0)), none, [], false⟩,
          ⟨(some 7), .mv (.k (.int .i64 2)), none, [], false⟩])
        (.ret))
       (.skip)))
     (.seq (.reg [
        ⟨(some 8), .mv (.k (.sl true 0 0 0 0 0)), none, [], false⟩])
      (.seq (.seq (.reg [
          ⟨(some 15), .mv (.t 0), none, [], false⟩,
          ⟨(some 16), .lenv false (.t 15), none, [], false⟩,
          ⟨(some 17), .mv (.k (.int .i64 0)), none, [], false⟩])
        (.blk 0 (.loop (.seq (.reg [
             ⟨(some 18), .bin .lss (.t 17) (.t 16), none, [], false⟩])
           (.seq (.cond (.t 18) (.skip)
             (.exit 0))
            (.seq (.blk 1 (.seq (.reg [
                 ⟨(some 19), .iad 6 (.t 15) (.t 17), none, [], false⟩,
                 ⟨(some 20), .ldn 6 (.t 19), none, [], false⟩,
                 ⟨(some 10), .new [.int .i64 0, .int .i64 0, .int .i64 0, .int .i64 0, .int .i64 0, .int .i64 0], none, [], false⟩,
                 ⟨none, .st 6 (.t 10) (.t 20), none, [], false⟩])
               (.seq (.seq (.reg [
                   ⟨(some 21), .ldn 6 (.t 10), none, [], false⟩,
                   ⟨(some 22), .call (.k (.fn 35 [])) [(.t 21)], none, [], false⟩,
                   ⟨(some 11), .mv (.t 22), none, [], false⟩])
                 (.seq (.reg [
                    ⟨(some 23), .mv (.t 11), none, [], false⟩,
                    ⟨(some 24), .bin .neq (.t 23) (.k (.int .i64 0)), none, [], false⟩])
                  (.cond (.t 24) (.seq (.reg [
                      ⟨(some 25), .mv (.t 11), none, [], false⟩,
                      ⟨(some 6), .mv (.k (.sl true 0 0 0 0 0)), none, [], false⟩,
                      ⟨(some 7), .mv (.t 25), none, [], false⟩])
                    (.ret))
                   (.skip))))
                (.seq (.reg [
                   ⟨(some 26), .fad 1 (.t 10), none, [], false⟩,
                   ⟨(some 27), .ld1 (.t 26), none, [], false⟩,
                   ⟨(some 28), .mv (.t 1), none, [], false⟩,
                   ⟨(some 29), .bin .geq (.t 27) (.t 28), none, [], false⟩,
                   ⟨(some 30), .mv (.t 29), none, [], false⟩,
                   ⟨(some 31), .fad 1 (.t 10), (some (30, true)), [], false⟩,
                   ⟨(some 32), .ld1 (.t 31), (some (30, true)), [], false⟩,
                   ⟨(some 33), .mv (.t 2), (some (30, true)), [], false⟩,
                   ⟨(some 34), .bin .lss (.t 32) (.t 33), (some (30, true)), [], false⟩,
                   ⟨(some 35), .pick (.t 30) (.t 34) (.k (.bool false)), none, [], false⟩])
                 (.cond (.t 35) (.reg [
                    ⟨(some 36), .mv (.t 8), none, [], false⟩,
                    ⟨(some 37), .ldn 6 (.t 10), none, [], false⟩,
                    ⟨(some 38), .mks [.int .i64 0, .int .i64 0, .int .i64 0, .int .i64 0, .int .i64 0, .int .i64 0] 6 1 [(0, 6, (.t 37))], none, [], false⟩,
                    ⟨(some 39), .app 6 48 (.t 36) (.t 38), none, [], false⟩,
                    ⟨(some 8), .mv (.t 39), none, [], false⟩])
                  (.skip))))))
             (.reg [
               ⟨(some 40), .bin .add (.t 17) (.k (.int .i64 1)), none, [], false⟩,
               ⟨(some 17), .mv (.t 40), none, [], false⟩])))))))
       (.seq (.reg [
          ⟨(some 41), .mv (.t 8), none, [], false⟩,
          ⟨(some 6), .mv (.t 41), none, [], false⟩,
          ⟨(some 7), .mv (.k (.int .i64 0)), none, [], false⟩])
        (.ret)))))
/-- slices.Equal[[]skyway/api.Plot,skyway/api.Plot] -/
def c44 : CF where
  np := 2
  nt := 26
  res := [.t 4]
  code := .seq (.reg [
      ⟨(some 4), .mv (.k (.bool false)), none, [], false⟩])
    (.seq (.seq (.reg [
        ⟨(some 6), .mv (.t 0), none, [], false⟩,
        ⟨(some 7), .lenv false (.t 6), none, [], false⟩,
        ⟨(some 8), .mv (.t 1), none, [], false⟩,
        ⟨(some 9), .lenv false (.t 8), none, [], false⟩,
        ⟨(some 10), .bin .neq (.t 7) (.t 9), none, [], false⟩])
      (.cond (.t 10) (.seq (.reg [
          ⟨(some 4), .mv (.k (.bool false)), none, [], false⟩])
        (.ret))
       (.skip)))
     (.seq (.seq (.reg [
         ⟨(some 11), .mv (.t 0), none, [], false⟩,
         ⟨(some 12), .lenv false (.t 11), none, [], false⟩,
         ⟨(some 13), .mv (.k (.int .i64 0)), none, [], false⟩])
       (.blk 0 (.loop (.seq (.reg [
            ⟨(some 14), .bin .lss (.t 13) (.t 12), none, [], false⟩])
          (.seq (.cond (.t 14) (.skip)
            (.exit 0))
           (.seq (.blk 1 (.seq (.reg [
                ⟨(some 15), .mv (.t 13), none, [], false⟩,
                ⟨(some 5), .mv (.t 15), none, [], false⟩])
              (.seq (.reg [
                 ⟨(some 16), .mv (.t 0), none, [], false⟩,
                 ⟨(some 17), .mv (.t 5), none, [], false⟩,
                 ⟨(some 18), .iad 6 (.t 16) (.t 17), none, [], false⟩,
                 ⟨(some 19), .ldn 6 (.t 18), none, [], false⟩,
                 ⟨(some 20), .mv (.t 1), none, [], false⟩,
                 ⟨(some 21), .mv (.t 5), none, [], false⟩,
                 ⟨(some 22), .iad 6 (.t 20) (.t 21), none, [], false⟩,
                 ⟨(some 23), .ldn 6 (.t 22), none, [], false⟩,
                 ⟨(some 24), .eqs true (some [.i, .i, .i, .i, .i, .i]) (.t 19) (.t 23), none, [], false⟩])
               (.cond (.t 24) (.seq (.reg [
                   ⟨(some 4), .mv (.k (.bool false)), none, [], false⟩])
                 (.ret))
                (.skip)))))
            (.reg [
              ⟨(some 25), .bin .add (.t 13) (.k (.int .i64 1)), none, [], false⟩,
              ⟨(some 13), .mv (.t 25), none, [], false⟩])))))))
      (.seq (.reg [
         ⟨(some 4), .mv (.k (.bool true)), none, [], false⟩])
       (.ret))))
/-- slices.Grow[[]skyway/api.Plot,skyway/api.Plot] -/
def c86 : CF where
  np := 2
  nt := 27
  res := [.t 4]
  code := .seq (.reg [
      ⟨(some 4), .mv (.k (.sl true 0 0 0 0 0)), none, [], false⟩])
    (.seq (.seq (.reg [
        ⟨(some 5), .mv (.t 1), none, [], false⟩,
        ⟨(some 6), .bin .lss (.t 5) (.k (.int .i64 0)), none, [], false⟩])
      (.cond (.t 6) (.reg [
         ⟨(some 7), .bad, none, [], false⟩,
         ⟨none, .bad, none, [], false⟩])
       (.skip)))
     (.seq (.seq (.reg [
         ⟨(some 8), .mv (.t 1), none, [], false⟩,
         ⟨(some 9), .mv (.t 0), none, [], false⟩,
         ⟨(some 10), .capv (.t 9), none, [], false⟩,
         ⟨(some 11), .mv (.t 0), none, [], false⟩,
         ⟨(some 12), .lenv false (.t 11), none, [], false⟩,
         ⟨(some 13), .bin .sub (.t 10) (.t 12), none, [], false⟩,
         ⟨(some 14), .bin .sub (.t 8) (.t 13), none, [], false⟩,
         ⟨(some 1), .mv (.t 14), none, [], false⟩])
       (.seq (.reg [
          ⟨(some 15), .mv (.t 1), none, [], false⟩,
          ⟨(some 16), .bin .gtr (.t 15) (.k (.int .i64 0)), none, [], false⟩])
        (.cond (.t 16) (.reg [
           ⟨(some 17), .mv (.t 0), none, [], false⟩,
           ⟨(some 18), .mv (.t 0), none, [], false⟩,
           ⟨(some 19), .capv (.t 18), none, [], false⟩,
           ⟨(some 20), .slc 6 (.t 17) none (some (.t 19)), none, [], false⟩,
           ⟨(some 21), .mv (.t 1), none, [], false⟩,
           ⟨(some 22), .appz [.int .i64 0, .int .i64 0, .int .i64 0, .int .i64 0, .int .i64 0, .int .i64 0] 48 (.t 20) (.t 21), none, [], false⟩,
           ⟨(some 23), .mv (.t 0), none, [], false⟩,
           ⟨(some 24), .lenv false (.t 23), none, [], false⟩,
           ⟨(some 25), .slc 6 (.t 22) none (some (.t 24)), none, [], false⟩,
           ⟨(some 0), .mv (.t 25), none, [], false⟩])
         (.skip))))
      (.seq (.reg [
         ⟨(some 26), .mv (.t 0), none, [], false⟩,
         ⟨(some 4), .mv (.t 26), none, [], false⟩])
       (.ret))))
/-- slices.Concat[[]skyway/api.Plot,skyway/api.Plot] -/
def c45 : CF where
  np := 1
  nt := 36
  res := [.t 2]
  code := .seq (.reg [
      ⟨(some 2), .mv (.k (.sl true 0 0 0 0 0)), none, [], false⟩])
    (.seq (.reg [
       ⟨(some 3), .mv (.k (.int .i64 0)), none, [], false⟩])
     (.seq (.seq (.reg [
         ⟨(some 9), .mv (.t 0), none, [], false⟩,
         ⟨(some 10), .lenv false (.t 9), none, [], false⟩,
         ⟨(some 11), .mv (.k (.int .i64 0)), none, [], false⟩])
       (.blk 0 (.loop (.seq (.reg [
            ⟨(some 12), .bin .lss (.t 11) (.t 10), none, [], false⟩])
          (.seq (.cond (.t 12) (.skip)
            (.exit 0))
           (.seq (.blk 1 (.seq (.reg [
                ⟨(some 13), .iad 1 (.t 9) (.t 11), none, [], false⟩,
                ⟨(some 14), .ld1 (.t 13), none, [], false⟩,
                ⟨(some 5), .mv (.t 14), none, [], false⟩])
              (.seq (.reg [
                 ⟨(some 15), .mv (.t 3), none, [], false⟩,
                 ⟨(some 16), .mv (.t 5), none, [], false⟩,
                 ⟨(some 17), .lenv false (.t 16), none, [], false⟩,
                 ⟨(some 18), .bin .add (.t 15) (.t 17), none, [], false⟩,
                 ⟨(some 3), .mv (.t 18), none, [], false⟩])
               (.seq (.reg [
                  ⟨(some 19), .mv (.t 3), none, [], false⟩,
                  ⟨(some 20), .bin .lss (.t 19) (.k (.int .i64 0)), none, [], false⟩])
                (.cond (.t 20) (.reg [
                   ⟨(some 21), .bad, none, [], false⟩,
                   ⟨none, .bad, none, [], false⟩])
                 (.skip))))))
            (.reg [
              ⟨(some 22), .bin .add (.t 11) (.k (.int .i64 1)), none, [], false⟩,
              ⟨(some 11), .mv (.t 22), none, [], false⟩])))))))
      (.seq (.reg [
         ⟨(some 23), .mv (.t 3), none, [], false⟩,
         ⟨(some 24), .call (.k (.fn 86 [])) [(.k (.sl true 0 0 0 0 0)), (.t 23)], none, [], false⟩,
         ⟨(some 6), .mv (.t 24), none, [], false⟩])
       (.seq (.seq (.reg [
           ⟨(some 25), .mv (.t 0), none, [], false⟩,
           ⟨(some 26), .lenv false (.t 25), none, [], false⟩,
           ⟨(some 27), .mv (.k (.int .i64 0)), none, [], false⟩])
         (.blk 2 (.loop (.seq (.reg [
              ⟨(some 28), .bin .lss (.t 27) (.t 26), none, [], false⟩])
            (.seq (.cond (.t 28) (.skip)
              (.exit 2))
             (.seq (.blk 3 (.seq (.reg [
                  ⟨(some 29), .iad 1 (.t 25) (.t 27), none, [], false⟩,
                  ⟨(some 30), .ld1 (.t 29), none, [], false⟩,
                  ⟨(some 8), .mv (.t 30), none, [], false⟩])
                (.reg [
                  ⟨(some 31), .mv (.t 6), none, [], false⟩,
                  ⟨(some 32), .mv (.t 8), none, [], false⟩,
                  ⟨(some 33), .app 6 48 (.t 31) (.t 32), none, [], false⟩,
                  ⟨(some 6), .mv (.t 33), none, [], false⟩])))
              (.reg [
                ⟨(some 34), .bin .add (.t 27) (.k (.int .i64 1)), none, [], false⟩,
                ⟨(some 27), .mv (.t 34), none, [], false⟩])))))))
        (.seq (.reg [
           ⟨(some 35), .mv (.t 6), none, [], false⟩,
           ⟨(some 2), .mv (.t 35), none, [], false⟩])
         (.ret))))))
/-- skyway/skywaykeep2.MosaicOrder -/
def c11 : CF where
  np := 3
  nt := 130
  res := [.t 6]
  code := .seq (.reg [
      ⟨(some 6), .mv (.k (.bool false)), none, [], false⟩])
    (.seq (.seq (.reg [
        ⟨(some 19), .mk [.int .i64 0, .int .i64 0, .int .i64 0, .int .i64 0, .int .i64 0, .int .i64 0] [(1, 1, (.k (.int .i64 2)))], none, [], false⟩,
        ⟨(some 20), .mks [.int .i64 0, .int .i64 0, .int .i64 0, .int .i64 0, .int .i64 0, .int .i64 0] 6 1 [(0, 6, (.t 19))], none, [], false⟩,
        ⟨(some 21), .mk [.int .i64 0, .int .i64 0, .int .i64 0, .int .i64 0, .int .i64 0, .int .i64 0] [(1, 1, (.k (.int .i64 1)))], none, [], false⟩,
        ⟨(some 22), .mks [.int .i64 0, .int .i64 0, .int .i64 0, .int .i64 0, .int .i64 0, .int .i64 0] 6 1 [(0, 6, (.t 21))], none, [], false⟩,
        ⟨(some 23), .mks [.sl true 0 0 0 0 0, .sl true 0 0 0 0 0] 1 2 [(0, 1, (.t 20)), (1, 1, (.t 22))], none, [], false⟩,
        ⟨(some 24), .call (.k (.fn 41 [])) [(.t 23)], none, [], false⟩,
        ⟨(some 18), .mv (.t 24), none, [], false⟩,
        ⟨(some 25), .ext (.t 18) 0, none, [], false⟩,
        ⟨(some 26), .ext (.t 18) 1, none, [], false⟩,
        ⟨(some 7), .mv (.t 25), none, [], false⟩,
        ⟨(some 8), .mv (.t 26), none, [], false⟩])
      (.seq (.reg [
         ⟨(some 27), .mv (.t 8), none, [], false⟩,
         ⟨(some 28), .bin .neq (.t 27) (.k (.int .i64 0)), none, [], false⟩,
         ⟨(some 29), .mv (.t 28), none, [], false⟩,
         ⟨(some 30), .mv (.t 7), (some (29, false)), [], false⟩,
         ⟨(some 31), .lenv false (.t 30), (some (29, false)), [], false⟩,
         ⟨(some 32), .bin .neq (.t 31) (.k (.int .i64 2)), (some (29, false)), [], false⟩,
         ⟨(some 33), .pick (.t 29) (.k (.bool true)) (.t 32), none, [], false⟩,
         ⟨(some 34), .mv (.t 33), none, [], false⟩,
         ⟨(some 35), .mv (.t 7), (some (34, false)), [], false⟩,
         ⟨(some 36), .iad 6 (.t 35) (.k (.int .i64 0)), (some (34, false)), [], false⟩,
         ⟨(some 37), .fad 1 (.t 36), (some (34, false)), [], false⟩,
         ⟨(some 38), .ld1 (.t 37), (some (34, false)), [], false⟩,
         ⟨(some 39), .bin .neq (.t 38) (.k (.int .i64 1)), (some (34, false)), [], false⟩,
         ⟨(some 40), .pick (.t 34) (.k (.bool true)) (.t 39), none, [], false⟩])
       (.cond (.t 40) (.seq (.reg [
           ⟨(some 6), .mv (.k (.bool false)), none, [], false⟩])
         (.ret))
        (.skip))))
     (.seq (.reg [
        ⟨(some 42), .mv (.t 0), none, [], false⟩,
        ⟨(some 43), .mv (.t 1), none, [], false⟩,
        ⟨(some 44), .mks [.sl true 0 0 0 0 0, .sl true 0 0 0 0 0] 1 2 [(0, 1, (.t 42)), (1, 1, (.t 43))], none, [], false⟩,
        ⟨(some 45), .call (.k (.fn 41 [])) [(.t 44)], none, [], false⟩,
        ⟨(some 41), .mv (.t 45), none, [], false⟩,
        ⟨(some 46), .ext (.t 41) 0, none, [], false⟩,
        ⟨(some 47), .ext (.t 41) 1, none, [], false⟩,
        ⟨(some 9), .mv (.t 46), none, [], false⟩,
        ⟨(some 10), .mv (.t 47), none, [], false⟩])
      (.seq (.reg [
         ⟨(some 49), .mv (.t 1), none, [], false⟩,
         ⟨(some 50), .mv (.t 0), none, [], false⟩,
         ⟨(some 51), .mks [.sl true 0 0 0 0 0, .sl true 0 0 0 0 0] 1 2 [(0, 1, (.t 49)), (1, 1, (.t 50))], none, [], false⟩,
         ⟨(some 52), .call (.k (.fn 41 [])) [(.t 51)], none, [], false⟩,
         ⟨(some 48), .mv (.t 52), none, [], false⟩,
         ⟨(some 53), .ext (.t 48) 0, none, [], false⟩,
         ⟨(some 54), .ext (.t 48) 1, none, [], false⟩,
         ⟨(some 11), .mv (.t 53), none, [], false⟩,
         ⟨(some 12), .mv (.t 54), none, [], false⟩])
       (.seq (.seq (.reg [
           ⟨(some 55), .mv (.t 10), none, [], false⟩,
           ⟨(some 56), .mv (.t 12), none, [], false⟩,
           ⟨(some 57), .mks [.int .i64 0, .int .i64 0] 1 2 [(0, 1, (.t 55)), (1, 1, (.t 56))], none, [], false⟩,
           ⟨(some 58), .call (.k (.fn 39 [])) [(.t 57)], none, [], false⟩,
           ⟨(some 59), .un .not (.t 58), none, [], false⟩])
         (.cond (.t 59) (.seq (.reg [
             ⟨(some 60), .mv (.t 9), none, [], false⟩,
             ⟨(some 61), .lenv false (.t 60), none, [], false⟩,
             ⟨(some 62), .bin .eql (.t 61) (.k (.int .i64 0)), none, [], false⟩,
             ⟨(some 63), .mv (.t 62), none, [], false⟩,
             ⟨(some 64), .mv (.t 11), (some (63, true)), [], false⟩,
             ⟨(some 65), .lenv false (.t 64), (some (63, true)), [], false⟩,
             ⟨(some 66), .bin .eql (.t 65) (.k (.int .i64 0)), (some (63, true)), [], false⟩,
             ⟨(some 67), .pick (.t 63) (.t 66) (.k (.bool false)), none, [], false⟩,
             ⟨(some 68), .mv (.t 67), none, [], false⟩,
             ⟨(some 69), .mv (.t 10), (some (68, false)), [], false⟩,
             ⟨(some 70), .bin .eql (.t 69) (.k (.int .i64 0)), (some (68, false)), [], false⟩,
             ⟨(some 71), .pick (.t 68) (.k (.bool true)) (.t 70), none, [], false⟩,
             ⟨(some 72), .mv (.t 71), none, [], false⟩,
             ⟨(some 73), .mv (.t 12), (some (72, false)), [], false⟩,
             ⟨(some 74), .bin .eql (.t 73) (.k (.int .i64 0)), (some (72, false)), [], false⟩,
             ⟨(some 75), .pick (.t 72) (.k (.bool true)) (.t 74), none, [], false⟩,
             ⟨(some 6), .mv (.t 75), none, [], false⟩])
           (.ret))
          (.skip)))
        (.seq (.seq (.reg [
            ⟨(some 13), .mv (.k (.int .i64 1)), none, [], false⟩])
          (.blk 0 (.loop (.seq (.seq (.reg [
                ⟨(some 76), .mv (.t 13), none, [], false⟩,
                ⟨(some 77), .mv (.t 9), none, [], false⟩,
                ⟨(some 78), .lenv false (.t 77), none, [], false⟩,
                ⟨(some 79), .bin .lss (.t 76) (.t 78), none, [], false⟩])
              (.cond (.t 79) (.skip)
               (.exit 0)))
             (.seq (.blk 1 (.seq (.reg [
                  ⟨(some 82), .mv (.t 9), none, [], false⟩,
                  ⟨(some 83), .mv (.t 13), none, [], false⟩,
                  ⟨(some 84), .bin .sub (.t 83) (.k (.int .i64 1)), none, [], false⟩,
                  ⟨(some 85), .iad 6 (.t 82) (.t 84), none, [], false⟩,
                  ⟨(some 86), .ldn 6 (.t 85), none, [], false⟩,
                  ⟨(some 87), .mv (.t 9), none, [], false⟩,
                  ⟨(some 88), .mv (.t 13), none, [], false⟩,
                  ⟨(some 89), .iad 6 (.t 87) (.t 88), none, [], false⟩,
                  ⟨(some 90), .ldn 6 (.t 89), none, [], false⟩,
                  ⟨(some 91), .call (.k (.fn 42 [])) [(.t 86), (.t 90)], none, [], false⟩,
                  ⟨(some 92), .bin .geq (.t 91) (.k (.int .i64 0)), none, [], false⟩])
                (.cond (.t 92) (.seq (.reg [
                    ⟨(some 6), .mv (.k (.bool false)), none, [], false⟩])
                  (.ret))
                 (.skip))))
              (.reg [
                ⟨(some 80), .mv (.t 13), none, [], false⟩,
                ⟨(some 81), .bin .add (.t 80) (.k (.int .i64 1)), none, [], false⟩,
                ⟨(some 13), .mv (.t 81), none, [], false⟩]))))))
         (.seq (.reg [
            ⟨(some 94), .mv (.t 9), none, [], false⟩,
            ⟨(some 95), .mv (.t 2), none, [], false⟩,
            ⟨(some 96), .call (.k (.fn 43 [])) [(.t 94), (.k (.int .i64 0)), (.t 95)], none, [], false⟩,
            ⟨(some 93), .mv (.t 96), none, [], false⟩,
            ⟨(some 97), .ext (.t 93) 0, none, [], false⟩,
            ⟨(some 98), .ext (.t 93) 1, none, [], false⟩,
            ⟨(some 14), .mv (.t 97), none, [], false⟩,
            ⟨(some 15), .mv (.t 98), none, [], false⟩])
          (.seq (.reg [
             ⟨(some 100), .mv (.t 9), none, [], false⟩,
             ⟨(some 101), .mv (.t 2), none, [], false⟩,
             ⟨(some 102), .call (.k (.fn 43 [])) [(.t 100), (.t 101), (.k (.int .i64 200001))], none, [], false⟩,
             ⟨(some 99), .mv (.t 102), none, [], false⟩,
             ⟨(some 103), .ext (.t 99) 0, none, [], false⟩,
             ⟨(some 104), .ext (.t 99) 1, none, [], false⟩,
             ⟨(some 16), .mv (.t 103), none, [], false⟩,
             ⟨(some 17), .mv (.t 104), none, [], false⟩])
           (.seq (.reg [
              ⟨(some 105), .mv (.t 9), none, [], false⟩,
              ⟨(some 106), .mv (.t 11), none, [], false⟩,
              ⟨(some 107), .call (.k (.fn 44 [])) [(.t 105), (.t 106)], none, [], false⟩,
              ⟨(some 108), .mv (.t 107), none, [], false⟩,
              ⟨(some 109), .mv (.t 15), (some (108, true)), [], false⟩,
              ⟨(some 110), .mv (.t 17), (some (108, true)), [], false⟩,
              ⟨(some 111), .mks [.int .i64 0, .int .i64 0] 1 2 [(0, 1, (.t 109)), (1, 1, (.t 110))], (some (108, true)), [], false⟩,
              ⟨(some 112), .call (.k (.fn 39 [])) [(.t 111)], (some (108, true)), [], false⟩,
              ⟨(some 113), .pick (.t 108) (.t 112) (.k (.bool false)), none, [], false⟩,
              ⟨(some 114), .mv (.t 113), none, [], false⟩,
              ⟨(some 115), .mv (.t 2), (some (114, true)), [], false⟩,
              ⟨(some 116), .bin .lss (.t 115) (.k (.int .i64 0)), (some (114, true)), [], false⟩,
              ⟨(some 117), .mv (.t 116), (some (114, true)), [], false⟩,
              ⟨(some 118), .mv (.t 2), (some (117, false)), [], false⟩,
              ⟨(some 119), .bin .gtr (.t 118) (.k (.int .i64 200000)), (some (117, false)), [], false⟩,
              ⟨(some 120), .pick (.t 117) (.k (.bool true)) (.t 119), (some (114, true)), [], false⟩,
              ⟨(some 121), .mv (.t 120), (some (114, true)), [], false⟩,
              ⟨(some 122), .mv (.t 14), (some (121, false)), [], false⟩,
              ⟨(some 123), .mv (.t 16), (some (121, false)), [], false⟩,
              ⟨(some 124), .mks [.sl true 0 0 0 0 0, .sl true 0 0 0 0 0] 1 2 [(0, 1, (.t 122)), (1, 1, (.t 123))], (some (121, false)), [], false⟩,
              ⟨(some 125), .call (.k (.fn 45 [])) [(.t 124)], (some (121, false)), [], false⟩,
              ⟨(some 126), .mv (.t 9), (some (121, false)), [], false⟩,
              ⟨(some 127), .call (.k (.fn 44 [])) [(.t 125), (.t 126)], (some (121, false)), [], false⟩,
              ⟨(some 128), .pick (.t 121) (.k (.bool true)) (.t 127), (some (114, true)), [], false⟩,
              ⟨(some 129), .pick (.t 114) (.t 128) (.k (.bool false)), none, [], false⟩,
              ⟨(some 6), .mv (.t 129), none, [], false⟩])
            (.ret)))))))))
theorem ok35 : cFunc Try.prog Try.f35 = some c35 := by kernel_rfl
theorem ok132 : cFunc Try.prog Try.f132 = some c132 := by kernel_rfl
theorem ok118 : cFunc Try.prog Try.f118 = some c118 := by kernel_rfl
theorem ok109 : cFunc Try.prog Try.f109 = some c109 := by kernel_rfl
theorem ok133 : cFunc Try.prog Try.f133 = some c133 := by kernel_rfl
theorem ok161 : cFunc Try.prog Try.f161 = some c161 := by kernel_rfl
theorem ok134 : cFunc Try.prog Try.f134 = some c134 := by kernel_rfl
theorem ok157 : cFunc Try.prog Try.f157 = some c157 := by kernel_rfl
theorem ok158 : cFunc Try.prog Try.f158 = some c158 := by kernel_rfl
theorem ok135 : cFunc Try.prog Try.f135 = some c135 := by kernel_rfl
theorem ok171 : cFunc Try.prog Try.f171 = some c171 := by kernel_rfl
theorem ok163 : cFunc Try.prog Try.f163 = some c163 := by kernel_rfl
theorem ok162 : cFunc Try.prog Try.f162 = some c162 := by kernel_rfl
theorem ok136 : cFunc Try.prog Try.f136 = some c136 := by kernel_rfl
theorem ok137 : cFunc Try.prog Try.f137 = some c137 := by kernel_rfl
theorem ok138 : cFunc Try.prog Try.f138 = some c138 := by kernel_rfl
theorem ok139 : cFunc Try.prog Try.f139 = some c139 := by kernel_rfl
theorem ok140 : cFunc Try.prog Try.f140 = some c140 := by kernel_rfl
theorem ok112 : cFunc Try.prog Try.f112 = some c112 := by kernel_rfl
theorem ok82 : cFunc Try.prog Try.f82 = some c82 := by kernel_rfl
theorem ok104 : cFunc Try.prog Try.f104 = some c104 := by kernel_rfl
theorem ok85 : cFunc Try.prog Try.f85 = some c85 := by kernel_rfl
theorem ok84 : cFunc Try.prog Try.f84 = some c84 := by kernel_rfl
theorem ok42 : cFunc Try.prog Try.f42 = some c42 := by kernel_rfl
theorem ok83 : cFunc Try.prog Try.f83 = some c83 := by kernel_rfl
theorem ok41 : cFunc Try.prog Try.f41 = some c41 := by kernel_rfl
theorem ok111 : cFunc Try.prog Try.f111 = some c111 := by kernel_rfl
theorem ok80 : cFunc Try.prog Try.f80 = some c80 := by kernel_rfl
theorem ok81 : cFunc Try.prog Try.f81 = some c81 := by kernel_rfl
theorem ok39 : cFunc Try.prog Try.f39 = some c39 := by kernel_rfl
theorem ok43 : cFunc Try.prog Try.f43 = some c43 := by kernel_rfl
theorem ok44 : cFunc Try.prog Try.f44 = some c44 := by kernel_rfl
theorem ok86 : cFunc Try.prog Try.f86 = some c86 := by kernel_rfl
theorem ok45 : cFunc Try.prog Try.f45 = some c45 := by kernel_rfl
theorem ok11 : cFunc Try.prog Try.f11 = some c11 := by kernel_rfl
end Go.Proofs.Ytaekgifbehoipaa.CodeAll
