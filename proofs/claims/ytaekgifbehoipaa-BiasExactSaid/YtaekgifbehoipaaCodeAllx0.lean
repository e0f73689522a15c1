/- The code of functions of the program, for the abstract machine; each is what the function is turned into. No condition. -/
import Derived.Test.YtaekgifbehoipaaEvaO
import Derived.Test.YtaekgifbehoipaaChecked
import Derived.KernelRfl
namespace Go.Proofs.Ytaekgifbehoipaa.CodeAll
open Go Go.Proofs.Ytaekgifbehoipaa.Eva
/-- skyway/radar.CheckPlot -/
def c35 : CF where
  np := 1
  nt := 61
  res := [.t 2]
  code := .seq (.reg [
      ⟨(some 1), .box (.t 0), none, [], false⟩,
      ⟨(some 2), .mv (.k (.int .i64 0)), none, [], false⟩])
    (.seq (.seq (.reg [
        ⟨(some 3), .fad 0 (.t 1), none, [], false⟩,
        ⟨(some 4), .ld1 (.t 3), none, [], false⟩,
        ⟨(some 5), .bin .lss (.t 4) (.k (.int .i64 0)), none, [], false⟩,
        ⟨(some 6), .mv (.t 5), none, [], false⟩,
        ⟨(some 7), .fad 0 (.t 1), (some (6, false)), [], false⟩,
        ⟨(some 8), .ld1 (.t 7), (some (6, false)), [], false⟩,
        ⟨(some 9), .bin .gtr (.t 8) (.k (.int .i64 255)), (some (6, false)), [], false⟩,
        ⟨(some 10), .pick (.t 6) (.k (.bool true)) (.t 9), none, [], false⟩,
        ⟨(some 11), .mv (.t 10), none, [], false⟩,
        ⟨(some 12), .fad 1 (.t 1), (some (11, false)), [], false⟩,
        ⟨(some 13), .ld1 (.t 12), (some (11, false)), [], false⟩,
        ⟨(some 14), .bin .lss (.t 13) (.k (.int .i64 0)), (some (11, false)), [], false⟩,
        ⟨(some 15), .pick (.t 11) (.k (.bool true)) (.t 14), none, [], false⟩,
        ⟨(some 16), .mv (.t 15), none, [], false⟩,
        ⟨(some 17), .fad 1 (.t 1), (some (16, false)), [], false⟩,
        ⟨(some 18), .ld1 (.t 17), (some (16, false)), [], false⟩,
        ⟨(some 19), .bin .gtr (.t 18) (.k (.int .i64 200000)), (some (16, false)), [], false⟩,
        ⟨(some 20), .pick (.t 16) (.k (.bool true)) (.t 19), none, [], false⟩,
        ⟨(some 21), .mv (.t 20), none, [], false⟩,
        ⟨(some 22), .fad 2 (.t 1), (some (21, false)), [], false⟩,
        ⟨(some 23), .ld1 (.t 22), (some (21, false)), [], false⟩,
        ⟨(some 24), .bin .lss (.t 23) (.k (.int .i64 0)), (some (21, false)), [], false⟩,
        ⟨(some 25), .pick (.t 21) (.k (.bool true)) (.t 24), none, [], false⟩,
        ⟨(some 26), .mv (.t 25), none, [], false⟩,
        ⟨(some 27), .fad 2 (.t 1), (some (26, false)), [], false⟩,
        ⟨(some 28), .ld1 (.t 27), (some (26, false)), [], false⟩,
        ⟨(some 29), .bin .gtr (.t 28) (.k (.int .i64 2000000)), (some (26, false)), [], false⟩,
        ⟨(some 30), .pick (.t 26) (.k (.bool true)) (.t 29), none, [], false⟩,
        ⟨(some 31), .mv (.t 30), none, [], false⟩,
        ⟨(some 32), .fad 3 (.t 1), (some (31, false)), [], false⟩,
        ⟨(some 33), .ld1 (.t 32), (some (31, false)), [], false⟩,
        ⟨(some 34), .bin .lss (.t 33) (.k (.int .i64 0)), (some (31, false)), [], false⟩,
        ⟨(some 35), .pick (.t 31) (.k (.bool true)) (.t 34), none, [], false⟩,
        ⟨(some 36), .mv (.t 35), none, [], false⟩,
        ⟨(some 37), .fad 3 (.t 1), (some (36, false)), [], false⟩,
        ⟨(some 38), .ld1 (.t 37), (some (36, false)), [], false⟩,
        ⟨(some 39), .bin .gtr (.t 38) (.k (.int .i64 4095)), (some (36, false)), [], false⟩,
        ⟨(some 40), .pick (.t 36) (.k (.bool true)) (.t 39), none, [], false⟩,
        ⟨(some 41), .mv (.t 40), none, [], false⟩,
        ⟨(some 42), .fad 4 (.t 1), (some (41, false)), [], false⟩,
        ⟨(some 43), .ld1 (.t 42), (some (41, false)), [], false⟩,
        ⟨(some 44), .bin .lss (.t 43) (.k (.int .i64 0)), (some (41, false)), [], false⟩,
        ⟨(some 45), .pick (.t 41) (.k (.bool true)) (.t 44), none, [], false⟩,
        ⟨(some 46), .mv (.t 45), none, [], false⟩,
        ⟨(some 47), .fad 4 (.t 1), (some (46, false)), [], false⟩,
        ⟨(some 48), .ld1 (.t 47), (some (46, false)), [], false⟩,
        ⟨(some 49), .bin .gtr (.t 48) (.k (.int .i64 60000)), (some (46, false)), [], false⟩,
        ⟨(some 50), .pick (.t 46) (.k (.bool true)) (.t 49), none, [], false⟩,
        ⟨(some 51), .mv (.t 50), none, [], false⟩,
        ⟨(some 52), .fad 5 (.t 1), (some (51, false)), [], false⟩,
        ⟨(some 53), .ld1 (.t 52), (some (51, false)), [], false⟩,
        ⟨(some 54), .bin .lss (.t 53) (.k (.int .i64 (-1))), (some (51, false)), [], false⟩,
        ⟨(some 55), .pick (.t 51) (.k (.bool true)) (.t 54), none, [], false⟩,
        ⟨(some 56), .mv (.t 55), none, [], false⟩,
        ⟨(some 57), .fad 5 (.t 1), (some (56, false)), [], false⟩,
        ⟨(some 58), .ld1 (.t 57), (some (56, false)), [], false⟩,
        ⟨(some 59), .bin .gtr (.t 58) (.k (.int .i64 4095)), (some (56, false)), [], false⟩,
        ⟨(some 60), .pick (.t 56) (.k (.bool true)) (.t 59), none, [], false⟩])
      (.cond (.t 60) (.seq (.reg [
          ⟨(some 2), .mv (.k (.int .i64 4)), none, [], false⟩])
        (.ret))
       (.skip)))
     (.seq (.reg [
        ⟨(some 2), .mv (.k (.int .i64 0)), none, [], false⟩])
      (.ret)))
/-- skyway/angle.Norm -/
def c105 : CF where
  np := 1
  nt := 5
  res := [.t 2]
  code := .seq (.reg [
      ⟨(some 2), .mv (.k (.int .i64 0)), none, [], false⟩])
    (.seq (.reg [
       ⟨(some 3), .mv (.t 0), none, [], false⟩,
       ⟨(some 4), .bin .and (.t 3) (.k (.int .i64 4095)), none, [], false⟩,
       ⟨(some 2), .mv (.t 4), none, [], false⟩])
     (.ret))
/-- skyway/angle.Diff -/
def c69 : CF where
  np := 2
  nt := 15
  res := [.t 4]
  code := .seq (.reg [
      ⟨(some 4), .mv (.k (.int .i64 0)), none, [], false⟩])
    (.seq (.reg [
       ⟨(some 6), .mv (.t 1), none, [], false⟩,
       ⟨(some 7), .mv (.t 0), none, [], false⟩,
       ⟨(some 8), .bin .sub (.t 6) (.t 7), none, [], false⟩,
       ⟨(some 9), .call (.k (.fn 105 [])) [(.t 8)], none, [], false⟩,
       ⟨(some 5), .mv (.t 9), none, [], false⟩])
     (.seq (.seq (.reg [
         ⟨(some 10), .mv (.t 5), none, [], false⟩,
         ⟨(some 11), .bin .gtr (.t 10) (.k (.int .i64 2048)), none, [], false⟩])
       (.cond (.t 11) (.reg [
          ⟨(some 12), .mv (.t 5), none, [], false⟩,
          ⟨(some 13), .bin .sub (.t 12) (.k (.int .i64 4096)), none, [], false⟩,
          ⟨(some 5), .mv (.t 13), none, [], false⟩])
        (.skip)))
      (.seq (.reg [
         ⟨(some 14), .mv (.t 5), none, [], false⟩,
         ⟨(some 4), .mv (.t 14), none, [], false⟩])
       (.ret))))
/-- math/bits.Len32 -/
def c132 : CF where
  np := 1
  nt := 19
  res := [.t 2]
  code := .seq (.reg [
      ⟨(some 2), .mv (.k (.int .i64 0)), none, [], false⟩])
    (.seq (.seq (.reg [
        ⟨(some 3), .mv (.t 0), none, [], false⟩,
        ⟨(some 4), .bin .geq (.t 3) (.k (.int .u32 65536)), none, [], false⟩])
      (.cond (.t 4) (.seq (.reg [
          ⟨(some 5), .mv (.t 0), none, [], false⟩,
          ⟨(some 6), .bin .shr (.t 5) (.k (.int .u64 16)), none, [], false⟩,
          ⟨(some 0), .mv (.t 6), none, [], false⟩])
        (.reg [
          ⟨(some 2), .mv (.k (.int .i64 16)), none, [], false⟩]))
       (.skip)))
     (.seq (.seq (.reg [
         ⟨(some 7), .mv (.t 0), none, [], false⟩,
         ⟨(some 8), .bin .geq (.t 7) (.k (.int .u32 256)), none, [], false⟩])
       (.cond (.t 8) (.seq (.reg [
           ⟨(some 9), .mv (.t 0), none, [], false⟩,
           ⟨(some 10), .bin .shr (.t 9) (.k (.int .u64 8)), none, [], false⟩,
           ⟨(some 0), .mv (.t 10), none, [], false⟩])
         (.reg [
           ⟨(some 11), .mv (.t 2), none, [], false⟩,
           ⟨(some 12), .bin .add (.t 11) (.k (.int .i64 8)), none, [], false⟩,
           ⟨(some 2), .mv (.t 12), none, [], false⟩]))
        (.skip)))
      (.seq (.reg [
         ⟨(some 13), .mv (.t 2), none, [], false⟩,
         ⟨(some 14), .mv (.t 0), none, [], false⟩,
         ⟨(some 15), .cvi .u8 (.t 14), none, [], false⟩,
         ⟨(some 16), .ixs (.k (.str ⟨#[0, 1, 2, 2, 3, 3, 3, 3, 4, 4, 4, 4, 4, 4, 4, 4, 5, 5, 5, 5, 5, 5, 5, 5, 5, 5, 5, 5, 5, 5, 5, 5, 6, 6, 6, 6, 6, 6, 6, 6, 6, 6, 6, 6, 6, 6, 6, 6, 6, 6, 6, 6, 6, 6, 6, 6, 6, 6, 6, 6, 6, 6, 6, 6, 7, 7, 7, 7, 7, 7, 7, 7, 7, 7, 7, 7, 7, 7, 7, 7, 7, 7, 7, 7, 7, 7, 7, 7, 7, 7, 7, 7, 7, 7, 7, 7, 7, 7, 7, 7, 7, 7, 7, 7, 7, 7, 7, 7, 7, 7, 7, 7, 7, 7, 7, 7, 7, 7, 7, 7, 7, 7, 7, 7, 7, 7, 7, 7, 8, 8, 8, 8, 8, 8, 8, 8, 8, 8, 8, 8, 8, 8, 8, 8, 8, 8, 8, 8, 8, 8, 8, 8, 8, 8, 8, 8, 8, 8, 8, 8, 8, 8, 8, 8, 8, 8, 8, 8, 8, 8, 8, 8, 8, 8, 8, 8, 8, 8, 8, 8, 8, 8, 8, 8, 8, 8, 8, 8, 8, 8, 8, 8, 8, 8, 8, 8, 8, 8, 8, 8, 8, 8, 8, 8, 8, 8, 8, 8, 8, 8, 8, 8, 8, 8, 8, 8, 8, 8, 8, 8, 8, 8, 8, 8, 8, 8, 8, 8, 8, 8, 8, 8, 8, 8, 8, 8, 8, 8, 8, 8, 8, 8, 8, 8, 8, 8, 8, 8, 8, 8, 8, 8, 8, 8, 8, 8]⟩)) (.t 15), none, [], false⟩,
         ⟨(some 17), .cvi .i64 (.t 16), none, [], false⟩,
         ⟨(some 18), .bin .add (.t 13) (.t 17), none, [], false⟩,
         ⟨(some 2), .mv (.t 18), none, [], false⟩])
       (.ret))))
/-- math/bits.Len64 -/
def c118 : CF where
  np := 1
  nt := 25
  res := [.t 2]
  code := .seq (.reg [
      ⟨(some 2), .mv (.k (.int .i64 0)), none, [], false⟩])
    (.seq (.seq (.reg [
        ⟨(some 3), .mv (.t 0), none, [], false⟩,
        ⟨(some 4), .bin .geq (.t 3) (.k (.int .u64 4294967296)), none, [], false⟩])
      (.cond (.t 4) (.seq (.reg [
          ⟨(some 5), .mv (.t 0), none, [], false⟩,
          ⟨(some 6), .bin .shr (.t 5) (.k (.int .u64 32)), none, [], false⟩,
          ⟨(some 0), .mv (.t 6), none, [], false⟩])
        (.reg [
          ⟨(some 2), .mv (.k (.int .i64 32)), none, [], false⟩]))
       (.skip)))
     (.seq (.seq (.reg [
         ⟨(some 7), .mv (.t 0), none, [], false⟩,
         ⟨(some 8), .bin .geq (.t 7) (.k (.int .u64 65536)), none, [], false⟩])
       (.cond (.t 8) (.seq (.reg [
           ⟨(some 9), .mv (.t 0), none, [], false⟩,
           ⟨(some 10), .bin .shr (.t 9) (.k (.int .u64 16)), none, [], false⟩,
           ⟨(some 0), .mv (.t 10), none, [], false⟩])
         (.reg [
           ⟨(some 11), .mv (.t 2), none, [], false⟩,
           ⟨(some 12), .bin .add (.t 11) (.k (.int .i64 16)), none, [], false⟩,
           ⟨(some 2), .mv (.t 12), none, [], false⟩]))
        (.skip)))
      (.seq (.seq (.reg [
          ⟨(some 13), .mv (.t 0), none, [], false⟩,
          ⟨(some 14), .bin .geq (.t 13) (.k (.int .u64 256)), none, [], false⟩])
        (.cond (.t 14) (.seq (.reg [
            ⟨(some 15), .mv (.t 0), none, [], false⟩,
            ⟨(some 16), .bin .shr (.t 15) (.k (.int .u64 8)), none, [], false⟩,
            ⟨(some 0), .mv (.t 16), none, [], false⟩])
          (.reg [
            ⟨(some 17), .mv (.t 2), none, [], false⟩,
            ⟨(some 18), .bin .add (.t 17) (.k (.int .i64 8)), none, [], false⟩,
            ⟨(some 2), .mv (.t 18), none, [], false⟩]))
         (.skip)))
       (.seq (.reg [
          ⟨(some 19), .mv (.t 2), none, [], false⟩,
          ⟨(some 20), .mv (.t 0), none, [], false⟩,
          ⟨(some 21), .cvi .u8 (.t 20), none, [], false⟩,
          ⟨(some 22), .ixs (.k (.str ⟨#[0, 1, 2, 2, 3, 3, 3, 3, 4, 4, 4, 4, 4, 4, 4, 4, 5, 5, 5, 5, 5, 5, 5, 5, 5, 5, 5, 5, 5, 5, 5, 5, 6, 6, 6, 6, 6, 6, 6, 6, 6, 6, 6, 6, 6, 6, 6, 6, 6, 6, 6, 6, 6, 6, 6, 6, 6, 6, 6, 6, 6, 6, 6, 6, 7, 7, 7, 7, 7, 7, 7, 7, 7, 7, 7, 7, 7, 7, 7, 7, 7, 7, 7, 7, 7, 7, 7, 7, 7, 7, 7, 7, 7, 7, 7, 7, 7, 7, 7, 7, 7, 7, 7, 7, 7, 7, 7, 7, 7, 7, 7, 7, 7, 7, 7, 7, 7, 7, 7, 7, 7, 7, 7, 7, 7, 7, 7, 7, 8, 8, 8, 8, 8, 8, 8, 8, 8, 8, 8, 8, 8, 8, 8, 8, 8, 8, 8, 8, 8, 8, 8, 8, 8, 8, 8, 8, 8, 8, 8, 8, 8, 8, 8, 8, 8, 8, 8, 8, 8, 8, 8, 8, 8, 8, 8, 8, 8, 8, 8, 8, 8, 8, 8, 8, 8, 8, 8, 8, 8, 8, 8, 8, 8, 8, 8, 8, 8, 8, 8, 8, 8, 8, 8, 8, 8, 8, 8, 8, 8, 8, 8, 8, 8, 8, 8, 8, 8, 8, 8, 8, 8, 8, 8, 8, 8, 8, 8, 8, 8, 8, 8, 8, 8, 8, 8, 8, 8, 8, 8, 8, 8, 8, 8, 8, 8, 8, 8, 8, 8, 8, 8, 8, 8, 8, 8, 8]⟩)) (.t 21), none, [], false⟩,
          ⟨(some 23), .cvi .i64 (.t 22), none, [], false⟩,
          ⟨(some 24), .bin .add (.t 19) (.t 23), none, [], false⟩,
          ⟨(some 2), .mv (.t 24), none, [], false⟩])
        (.ret)))))
/-- math/bits.Len -/
def c109 : CF where
  np := 1
  nt := 8
  res := [.t 2]
  code := .seq (.reg [
      ⟨(some 2), .mv (.k (.int .i64 0)), none, [], false⟩])
    (.seq (.cond (.k (.bool false)) (.seq (.reg [
         ⟨(some 3), .mv (.t 0), none, [], false⟩,
         ⟨(some 4), .cvi .u32 (.t 3), none, [], false⟩,
         ⟨(some 5), .call (.k (.fn 132 [])) [(.t 4)], none, [], false⟩,
         ⟨(some 2), .mv (.t 5), none, [], false⟩])
       (.ret))
      (.skip))
     (.seq (.reg [
        ⟨(some 6), .mv (.t 0), none, [], false⟩,
        ⟨(some 7), .call (.k (.fn 118 [])) [(.t 6)], none, [], false⟩,
        ⟨(some 2), .mv (.t 7), none, [], false⟩])
      (.ret)))
/-- cmp.isNaN[int] -/
def c104 : CF where
  np := 1
  nt := 6
  res := [.t 2]
  code := .seq (.reg [
      ⟨(some 2), .mv (.k (.bool false)), none, [], false⟩])
    (.seq (.reg [
       ⟨(some 3), .mv (.t 0), none, [], false⟩,
       ⟨(some 4), .mv (.t 0), none, [], false⟩,
       ⟨(some 5), .bin .neq (.t 3) (.t 4), none, [], false⟩,
       ⟨(some 2), .mv (.t 5), none, [], false⟩])
     (.ret))
/-- cmp.Less[int] -/
def c68 : CF where
  np := 2
  nt := 17
  res := [.t 4]
  code := .seq (.reg [
      ⟨(some 4), .mv (.k (.bool false)), none, [], false⟩])
    (.seq (.reg [
       ⟨(some 5), .mv (.t 0), none, [], false⟩,
       ⟨(some 6), .call (.k (.fn 104 [])) [(.t 5)], none, [], false⟩,
       ⟨(some 7), .mv (.t 6), none, [], false⟩,
       ⟨(some 8), .mv (.t 1), (some (7, true)), [], false⟩,
       ⟨(some 9), .call (.k (.fn 104 [])) [(.t 8)], (some (7, true)), [], false⟩,
       ⟨(some 10), .un .not (.t 9), (some (7, true)), [], false⟩,
       ⟨(some 11), .pick (.t 7) (.t 10) (.k (.bool false)), none, [], false⟩,
       ⟨(some 12), .mv (.t 11), none, [], false⟩,
       ⟨(some 13), .mv (.t 0), (some (12, false)), [], false⟩,
       ⟨(some 14), .mv (.t 1), (some (12, false)), [], false⟩,
       ⟨(some 15), .bin .lss (.t 13) (.t 14), (some (12, false)), [], false⟩,
       ⟨(some 16), .pick (.t 12) (.k (.bool true)) (.t 15), none, [], false⟩,
       ⟨(some 4), .mv (.t 16), none, [], false⟩])
     (.ret))
/-- slices.insertionSortOrdered[int] -/
def c148 : CF where
  np := 3
  nt := 49
  res := []
  code := .seq (.reg [
      ⟨(some 8), .mv (.t 1), none, [], false⟩,
      ⟨(some 9), .bin .add (.t 8) (.k (.int .i64 1)), none, [], false⟩,
      ⟨(some 6), .mv (.t 9), none, [], false⟩])
    (.blk 0 (.loop (.seq (.seq (.reg [
          ⟨(some 10), .mv (.t 6), none, [], false⟩,
          ⟨(some 11), .mv (.t 2), none, [], false⟩,
          ⟨(some 12), .bin .lss (.t 10) (.t 11), none, [], false⟩])
        (.cond (.t 12) (.skip)
         (.exit 0)))
       (.seq (.blk 1 (.seq (.reg [
            ⟨(some 15), .mv (.t 6), none, [], false⟩,
            ⟨(some 7), .mv (.t 15), none, [], false⟩])
          (.blk 2 (.loop (.seq (.seq (.reg [
                ⟨(some 16), .mv (.t 7), none, [], false⟩,
                ⟨(some 17), .mv (.t 1), none, [], false⟩,
                ⟨(some 18), .bin .gtr (.t 16) (.t 17), none, [], false⟩,
                ⟨(some 19), .mv (.t 18), none, [], false⟩,
                ⟨(some 20), .mv (.t 0), (some (19, true)), [], false⟩,
                ⟨(some 21), .mv (.t 7), (some (19, true)), [], false⟩,
                ⟨(some 22), .iad 1 (.t 20) (.t 21), (some (19, true)), [], false⟩,
                ⟨(some 23), .ld1 (.t 22), (some (19, true)), [], false⟩,
                ⟨(some 24), .mv (.t 0), (some (19, true)), [], false⟩,
                ⟨(some 25), .mv (.t 7), (some (19, true)), [], false⟩,
                ⟨(some 26), .bin .sub (.t 25) (.k (.int .i64 1)), (some (19, true)), [], false⟩,
                ⟨(some 27), .iad 1 (.t 24) (.t 26), (some (19, true)), [], false⟩,
                ⟨(some 28), .ld1 (.t 27), (some (19, true)), [], false⟩,
                ⟨(some 29), .call (.k (.fn 68 [])) [(.t 23), (.t 28)], (some (19, true)), [], false⟩,
                ⟨(some 30), .pick (.t 19) (.t 29) (.k (.bool false)), none, [], false⟩])
              (.cond (.t 30) (.skip)
               (.exit 2)))
             (.seq (.blk 3 (.reg [
                 ⟨(some 33), .mv (.t 0), none, [], false⟩,
                 ⟨(some 34), .mv (.t 7), none, [], false⟩,
                 ⟨(some 35), .mv (.t 0), none, [], false⟩,
                 ⟨(some 36), .mv (.t 7), none, [], false⟩,
                 ⟨(some 37), .bin .sub (.t 36) (.k (.int .i64 1)), none, [], false⟩,
                 ⟨(some 38), .mv (.t 0), none, [], false⟩,
                 ⟨(some 39), .mv (.t 7), none, [], false⟩,
                 ⟨(some 40), .bin .sub (.t 39) (.k (.int .i64 1)), none, [], false⟩,
                 ⟨(some 41), .iad 1 (.t 38) (.t 40), none, [], false⟩,
                 ⟨(some 42), .ld1 (.t 41), none, [], false⟩,
                 ⟨(some 43), .mv (.t 0), none, [], false⟩,
                 ⟨(some 44), .mv (.t 7), none, [], false⟩,
                 ⟨(some 45), .iad 1 (.t 43) (.t 44), none, [], false⟩,
                 ⟨(some 46), .ld1 (.t 45), none, [], false⟩,
                 ⟨(some 47), .iad 1 (.t 33) (.t 34), none, [], false⟩,
                 ⟨none, .st 1 (.t 47) (.t 42), none, [], false⟩,
                 ⟨(some 48), .iad 1 (.t 35) (.t 37), none, [], false⟩,
                 ⟨none, .st 1 (.t 48) (.t 46), none, [], false⟩]))
              (.reg [
                ⟨(some 31), .mv (.t 7), none, [], false⟩,
                ⟨(some 32), .bin .sub (.t 31) (.k (.int .i64 1)), none, [], false⟩,
                ⟨(some 7), .mv (.t 32), none, [], false⟩])))))))
        (.reg [
          ⟨(some 13), .mv (.t 6), none, [], false⟩,
          ⟨(some 14), .bin .add (.t 13) (.k (.int .i64 1)), none, [], false⟩,
          ⟨(some 6), .mv (.t 14), none, [], false⟩])))))
/-- slices.siftDownOrdered[int] -/
def c167 : CF where
  np := 4
  nt := 76
  res := []
  code := .seq (.reg [
      ⟨(some 10), .mv (.t 1), none, [], false⟩,
      ⟨(some 8), .mv (.t 10), none, [], false⟩])
    (.blk 0 (.loop (.blk 1 (.seq (.reg [
          ⟨(some 11), .mv (.t 8), none, [], false⟩,
          ⟨(some 12), .bin .mul (.k (.int .i64 2)) (.t 11), none, [], false⟩,
          ⟨(some 13), .bin .add (.t 12) (.k (.int .i64 1)), none, [], false⟩,
          ⟨(some 9), .mv (.t 13), none, [], false⟩])
        (.seq (.seq (.reg [
            ⟨(some 14), .mv (.t 9), none, [], false⟩,
            ⟨(some 15), .mv (.t 2), none, [], false⟩,
            ⟨(some 16), .bin .geq (.t 14) (.t 15), none, [], false⟩])
          (.cond (.t 16) (.exit 0)
           (.skip)))
         (.seq (.seq (.reg [
             ⟨(some 17), .mv (.t 9), none, [], false⟩,
             ⟨(some 18), .bin .add (.t 17) (.k (.int .i64 1)), none, [], false⟩,
             ⟨(some 19), .mv (.t 2), none, [], false⟩,
             ⟨(some 20), .bin .lss (.t 18) (.t 19), none, [], false⟩,
             ⟨(some 21), .mv (.t 20), none, [], false⟩,
             ⟨(some 22), .mv (.t 0), (some (21, true)), [], false⟩,
             ⟨(some 23), .mv (.t 3), (some (21, true)), [], false⟩,
             ⟨(some 24), .mv (.t 9), (some (21, true)), [], false⟩,
             ⟨(some 25), .bin .add (.t 23) (.t 24), (some (21, true)), [], false⟩,
             ⟨(some 26), .iad 1 (.t 22) (.t 25), (some (21, true)), [], false⟩,
             ⟨(some 27), .ld1 (.t 26), (some (21, true)), [], false⟩,
             ⟨(some 28), .mv (.t 0), (some (21, true)), [], false⟩,
             ⟨(some 29), .mv (.t 3), (some (21, true)), [], false⟩,
             ⟨(some 30), .mv (.t 9), (some (21, true)), [], false⟩,
             ⟨(some 31), .bin .add (.t 29) (.t 30), (some (21, true)), [], false⟩,
             ⟨(some 32), .bin .add (.t 31) (.k (.int .i64 1)), (some (21, true)), [], false⟩,
             ⟨(some 33), .iad 1 (.t 28) (.t 32), (some (21, true)), [], false⟩,
             ⟨(some 34), .ld1 (.t 33), (some (21, true)), [], false⟩,
             ⟨(some 35), .call (.k (.fn 68 [])) [(.t 27), (.t 34)], (some (21, true)), [], false⟩,
             ⟨(some 36), .pick (.t 21) (.t 35) (.k (.bool false)), none, [], false⟩])
           (.cond (.t 36) (.reg [
              ⟨(some 37), .mv (.t 9), none, [], false⟩,
              ⟨(some 38), .bin .add (.t 37) (.k (.int .i64 1)), none, [], false⟩,
              ⟨(some 9), .mv (.t 38), none, [], false⟩])
            (.skip)))
          (.seq (.seq (.reg [
              ⟨(some 39), .mv (.t 0), none, [], false⟩,
              ⟨(some 40), .mv (.t 3), none, [], false⟩,
              ⟨(some 41), .mv (.t 8), none, [], false⟩,
              ⟨(some 42), .bin .add (.t 40) (.t 41), none, [], false⟩,
              ⟨(some 43), .iad 1 (.t 39) (.t 42), none, [], false⟩,
              ⟨(some 44), .ld1 (.t 43), none, [], false⟩,
              ⟨(some 45), .mv (.t 0), none, [], false⟩,
              ⟨(some 46), .mv (.t 3), none, [], false⟩,
              ⟨(some 47), .mv (.t 9), none, [], false⟩,
              ⟨(some 48), .bin .add (.t 46) (.t 47), none, [], false⟩,
              ⟨(some 49), .iad 1 (.t 45) (.t 48), none, [], false⟩,
              ⟨(some 50), .ld1 (.t 49), none, [], false⟩,
              ⟨(some 51), .call (.k (.fn 68 [])) [(.t 44), (.t 50)], none, [], false⟩,
              ⟨(some 52), .un .not (.t 51), none, [], false⟩])
            (.cond (.t 52) (.ret)
             (.skip)))
           (.seq (.reg [
              ⟨(some 53), .mv (.t 0), none, [], false⟩,
              ⟨(some 54), .mv (.t 3), none, [], false⟩,
              ⟨(some 55), .mv (.t 8), none, [], false⟩,
              ⟨(some 56), .bin .add (.t 54) (.t 55), none, [], false⟩,
              ⟨(some 57), .mv (.t 0), none, [], false⟩,
              ⟨(some 58), .mv (.t 3), none, [], false⟩,
              ⟨(some 59), .mv (.t 9), none, [], false⟩,
              ⟨(some 60), .bin .add (.t 58) (.t 59), none, [], false⟩,
              ⟨(some 61), .mv (.t 0), none, [], false⟩,
              ⟨(some 62), .mv (.t 3), none, [], false⟩,
              ⟨(some 63), .mv (.t 9), none, [], false⟩,
              ⟨(some 64), .bin .add (.t 62) (.t 63), none, [], false⟩,
              ⟨(some 65), .iad 1 (.t 61) (.t 64), none, [], false⟩,
              ⟨(some 66), .ld1 (.t 65), none, [], false⟩,
              ⟨(some 67), .mv (.t 0), none, [], false⟩,
              ⟨(some 68), .mv (.t 3), none, [], false⟩,
              ⟨(some 69), .mv (.t 8), none, [], false⟩,
              ⟨(some 70), .bin .add (.t 68) (.t 69), none, [], false⟩,
              ⟨(some 71), .iad 1 (.t 67) (.t 70), none, [], false⟩,
              ⟨(some 72), .ld1 (.t 71), none, [], false⟩,
              ⟨(some 73), .iad 1 (.t 53) (.t 56), none, [], false⟩,
              ⟨none, .st 1 (.t 73) (.t 66), none, [], false⟩,
              ⟨(some 74), .iad 1 (.t 57) (.t 60), none, [], false⟩,
              ⟨none, .st 1 (.t 74) (.t 72), none, [], false⟩])
            (.reg [
              ⟨(some 75), .mv (.t 9), none, [], false⟩,
              ⟨(some 8), .mv (.t 75), none, [], false⟩])))))))))
/-- slices.heapSortOrdered[int] -/
def c149 : CF where
  np := 3
  nt := 56
  res := []
  code := .seq (.reg [
      ⟨(some 11), .mv (.t 1), none, [], false⟩,
      ⟨(some 6), .mv (.t 11), none, [], false⟩])
    (.seq (.reg [
       ⟨(some 7), .mv (.k (.int .i64 0)), none, [], false⟩])
     (.seq (.reg [
        ⟨(some 12), .mv (.t 2), none, [], false⟩,
        ⟨(some 13), .mv (.t 1), none, [], false⟩,
        ⟨(some 14), .bin .sub (.t 12) (.t 13), none, [], false⟩,
        ⟨(some 8), .mv (.t 14), none, [], false⟩])
      (.seq (.seq (.reg [
          ⟨(some 15), .mv (.t 8), none, [], false⟩,
          ⟨(some 16), .bin .sub (.t 15) (.k (.int .i64 1)), none, [], false⟩,
          ⟨(some 17), .bin .quo (.t 16) (.k (.int .i64 2)), none, [], false⟩,
          ⟨(some 9), .mv (.t 17), none, [], false⟩])
        (.blk 0 (.loop (.seq (.seq (.reg [
              ⟨(some 18), .mv (.t 9), none, [], false⟩,
              ⟨(some 19), .bin .geq (.t 18) (.k (.int .i64 0)), none, [], false⟩])
            (.cond (.t 19) (.skip)
             (.exit 0)))
           (.seq (.blk 1 (.reg [
               ⟨(some 22), .mv (.t 0), none, [], false⟩,
               ⟨(some 23), .mv (.t 9), none, [], false⟩,
               ⟨(some 24), .mv (.t 8), none, [], false⟩,
               ⟨(some 25), .mv (.t 6), none, [], false⟩,
               ⟨(some 26), .call (.k (.fn 167 [])) [(.t 22), (.t 23), (.t 24), (.t 25)], none, [], false⟩]))
            (.reg [
              ⟨(some 20), .mv (.t 9), none, [], false⟩,
              ⟨(some 21), .bin .sub (.t 20) (.k (.int .i64 1)), none, [], false⟩,
              ⟨(some 9), .mv (.t 21), none, [], false⟩]))))))
       (.seq (.reg [
          ⟨(some 27), .mv (.t 8), none, [], false⟩,
          ⟨(some 28), .bin .sub (.t 27) (.k (.int .i64 1)), none, [], false⟩,
          ⟨(some 10), .mv (.t 28), none, [], false⟩])
        (.blk 2 (.loop (.seq (.seq (.reg [
              ⟨(some 29), .mv (.t 10), none, [], false⟩,
              ⟨(some 30), .bin .geq (.t 29) (.k (.int .i64 0)), none, [], false⟩])
            (.cond (.t 30) (.skip)
             (.exit 2)))
           (.seq (.blk 3 (.seq (.reg [
                ⟨(some 33), .mv (.t 0), none, [], false⟩,
                ⟨(some 34), .mv (.t 6), none, [], false⟩,
                ⟨(some 35), .mv (.t 0), none, [], false⟩,
                ⟨(some 36), .mv (.t 6), none, [], false⟩,
                ⟨(some 37), .mv (.t 10), none, [], false⟩,
                ⟨(some 38), .bin .add (.t 36) (.t 37), none, [], false⟩,
                ⟨(some 39), .mv (.t 0), none, [], false⟩,
                ⟨(some 40), .mv (.t 6), none, [], false⟩,
                ⟨(some 41), .mv (.t 10), none, [], false⟩,
                ⟨(some 42), .bin .add (.t 40) (.t 41), none, [], false⟩,
                ⟨(some 43), .iad 1 (.t 39) (.t 42), none, [], false⟩,
                ⟨(some 44), .ld1 (.t 43), none, [], false⟩,
                ⟨(some 45), .mv (.t 0), none, [], false⟩,
                ⟨(some 46), .mv (.t 6), none, [], false⟩,
                ⟨(some 47), .iad 1 (.t 45) (.t 46), none, [], false⟩,
                ⟨(some 48), .ld1 (.t 47), none, [], false⟩,
                ⟨(some 49), .iad 1 (.t 33) (.t 34), none, [], false⟩,
                ⟨none, .st 1 (.t 49) (.t 44), none, [], false⟩,
                ⟨(some 50), .iad 1 (.t 35) (.t 38), none, [], false⟩,
                ⟨none, .st 1 (.t 50) (.t 48), none, [], false⟩])
              (.reg [
                ⟨(some 51), .mv (.t 0), none, [], false⟩,
                ⟨(some 52), .mv (.t 7), none, [], false⟩,
                ⟨(some 53), .mv (.t 10), none, [], false⟩,
                ⟨(some 54), .mv (.t 6), none, [], false⟩,
                ⟨(some 55), .call (.k (.fn 167 [])) [(.t 51), (.t 52), (.t 53), (.t 54)], none, [], false⟩])))
            (.reg [
              ⟨(some 31), .mv (.t 10), none, [], false⟩,
              ⟨(some 32), .bin .sub (.t 31) (.k (.int .i64 1)), none, [], false⟩,
              ⟨(some 10), .mv (.t 32), none, [], false⟩])))))))))
/-- slices.nextPowerOfTwo -/
def c157 : CF where
  np := 1
  nt := 7
  res := [.t 2]
  code := .seq (.reg [
      ⟨(some 2), .mv (.k (.int .u64 0)), none, [], false⟩])
    (.seq (.reg [
       ⟨(some 3), .mv (.t 0), none, [], false⟩,
       ⟨(some 4), .cvi .u64 (.t 3), none, [], false⟩,
       ⟨(some 5), .call (.k (.fn 109 [])) [(.t 4)], none, [], false⟩,
       ⟨(some 6), .bin .shl (.k (.int .u64 1)) (.t 5), none, [], false⟩,
       ⟨(some 2), .mv (.t 6), none, [], false⟩])
     (.ret))
/-- (*slices.xorshift).Next -/
def c158 : CF where
  np := 1
  nt := 33
  res := [.t 2]
  code := .seq (.reg [
      ⟨(some 2), .mv (.k (.int .u64 0)), none, [], false⟩])
    (.seq (.reg [
       ⟨(some 3), .mv (.t 0), none, [], false⟩,
       ⟨(some 4), .nchk (.t 3), none, [], false⟩,
       ⟨(some 5), .ld1 (.t 4), none, [], false⟩,
       ⟨(some 6), .mv (.t 0), none, [], false⟩,
       ⟨(some 7), .nchk (.t 6), none, [], false⟩,
       ⟨(some 8), .ld1 (.t 7), none, [], false⟩,
       ⟨(some 9), .bin .shl (.t 8) (.k (.int .u64 13)), none, [], false⟩,
       ⟨(some 10), .bin .xor (.t 5) (.t 9), none, [], false⟩,
       ⟨(some 11), .nchk (.t 3), none, [], false⟩,
       ⟨none, .st 1 (.t 11) (.t 10), none, [], false⟩])
     (.seq (.reg [
        ⟨(some 12), .mv (.t 0), none, [], false⟩,
        ⟨(some 13), .nchk (.t 12), none, [], false⟩,
        ⟨(some 14), .ld1 (.t 13), none, [], false⟩,
        ⟨(some 15), .mv (.t 0), none, [], false⟩,
        ⟨(some 16), .nchk (.t 15), none, [], false⟩,
        ⟨(some 17), .ld1 (.t 16), none, [], false⟩,
        ⟨(some 18), .bin .shr (.t 17) (.k (.int .u64 7)), none, [], false⟩,
        ⟨(some 19), .bin .xor (.t 14) (.t 18), none, [], false⟩,
        ⟨(some 20), .nchk (.t 12), none, [], false⟩,
        ⟨none, .st 1 (.t 20) (.t 19), none, [], false⟩])
      (.seq (.reg [
         ⟨(some 21), .mv (.t 0), none, [], false⟩,
         ⟨(some 22), .nchk (.t 21), none, [], false⟩,
         ⟨(some 23), .ld1 (.t 22), none, [], false⟩,
         ⟨(some 24), .mv (.t 0), none, [], false⟩,
         ⟨(some 25), .nchk (.t 24), none, [], false⟩,
         ⟨(some 26), .ld1 (.t 25), none, [], false⟩,
         ⟨(some 27), .bin .shl (.t 26) (.k (.int .u64 17)), none, [], false⟩,
         ⟨(some 28), .bin .xor (.t 23) (.t 27), none, [], false⟩,
         ⟨(some 29), .nchk (.t 21), none, [], false⟩,
         ⟨none, .st 1 (.t 29) (.t 28), none, [], false⟩])
       (.seq (.reg [
          ⟨(some 30), .mv (.t 0), none, [], false⟩,
          ⟨(some 31), .nchk (.t 30), none, [], false⟩,
          ⟨(some 32), .ld1 (.t 31), none, [], false⟩,
          ⟨(some 2), .mv (.t 32), none, [], false⟩])
        (.ret)))))
/-- slices.breakPatternsOrdered[int] -/
def c150 : CF where
  np := 3
  nt := 65
  res := []
  code := .seq (.reg [
      ⟨(some 11), .mv (.t 2), none, [], false⟩,
      ⟨(some 12), .mv (.t 1), none, [], false⟩,
      ⟨(some 13), .bin .sub (.t 11) (.t 12), none, [], false⟩,
      ⟨(some 6), .mv (.t 13), none, [], false⟩])
    (.seq (.reg [
       ⟨(some 14), .mv (.t 6), none, [], false⟩,
       ⟨(some 15), .bin .geq (.t 14) (.k (.int .i64 8)), none, [], false⟩])
     (.cond (.t 15) (.seq (.reg [
         ⟨(some 16), .mv (.t 6), none, [], false⟩,
         ⟨(some 17), .cvi .u64 (.t 16), none, [], false⟩,
         ⟨(some 7), .new [.int .u64 0], none, [], false⟩,
         ⟨none, .st 1 (.t 7) (.t 17), none, [], false⟩])
       (.seq (.reg [
          ⟨(some 18), .mv (.t 6), none, [], false⟩,
          ⟨(some 19), .call (.k (.fn 157 [])) [(.t 18)], none, [], false⟩,
          ⟨(some 8), .mv (.t 19), none, [], false⟩])
        (.seq (.reg [
           ⟨(some 20), .mv (.t 1), none, [], false⟩,
           ⟨(some 21), .mv (.t 6), none, [], false⟩,
           ⟨(some 22), .bin .quo (.t 21) (.k (.int .i64 4)), none, [], false⟩,
           ⟨(some 23), .bin .mul (.t 22) (.k (.int .i64 2)), none, [], false⟩,
           ⟨(some 24), .bin .add (.t 20) (.t 23), none, [], false⟩,
           ⟨(some 25), .bin .sub (.t 24) (.k (.int .i64 1)), none, [], false⟩,
           ⟨(some 9), .mv (.t 25), none, [], false⟩])
         (.blk 0 (.loop (.seq (.seq (.reg [
               ⟨(some 26), .mv (.t 9), none, [], false⟩,
               ⟨(some 27), .mv (.t 1), none, [], false⟩,
               ⟨(some 28), .mv (.t 6), none, [], false⟩,
               ⟨(some 29), .bin .quo (.t 28) (.k (.int .i64 4)), none, [], false⟩,
               ⟨(some 30), .bin .mul (.t 29) (.k (.int .i64 2)), none, [], false⟩,
               ⟨(some 31), .bin .add (.t 27) (.t 30), none, [], false⟩,
               ⟨(some 32), .bin .add (.t 31) (.k (.int .i64 1)), none, [], false⟩,
               ⟨(some 33), .bin .leq (.t 26) (.t 32), none, [], false⟩])
             (.cond (.t 33) (.skip)
              (.exit 0)))
            (.seq (.blk 1 (.seq (.reg [
                 ⟨(some 36), .call (.k (.fn 158 [])) [(.t 7)], none, [], false⟩,
                 ⟨(some 37), .mv (.t 8), none, [], false⟩,
                 ⟨(some 38), .bin .sub (.t 37) (.k (.int .u64 1)), none, [], false⟩,
                 ⟨(some 39), .bin .and (.t 36) (.t 38), none, [], false⟩,
                 ⟨(some 40), .cvi .i64 (.t 39), none, [], false⟩,
                 ⟨(some 10), .mv (.t 40), none, [], false⟩])
               (.seq (.seq (.reg [
                   ⟨(some 41), .mv (.t 10), none, [], false⟩,
                   ⟨(some 42), .mv (.t 6), none, [], false⟩,
                   ⟨(some 43), .bin .geq (.t 41) (.t 42), none, [], false⟩])
                 (.cond (.t 43) (.reg [
                    ⟨(some 44), .mv (.t 10), none, [], false⟩,
                    ⟨(some 45), .mv (.t 6), none, [], false⟩,
                    ⟨(some 46), .bin .sub (.t 44) (.t 45), none, [], false⟩,
                    ⟨(some 10), .mv (.t 46), none, [], false⟩])
                  (.skip)))
                (.reg [
                  ⟨(some 47), .mv (.t 0), none, [], false⟩,
                  ⟨(some 48), .mv (.t 9), none, [], false⟩,
                  ⟨(some 49), .mv (.t 0), none, [], false⟩,
                  ⟨(some 50), .mv (.t 1), none, [], false⟩,
                  ⟨(some 51), .mv (.t 10), none, [], false⟩,
                  ⟨(some 52), .bin .add (.t 50) (.t 51), none, [], false⟩,
                  ⟨(some 53), .mv (.t 0), none, [], false⟩,
                  ⟨(some 54), .mv (.t 1), none, [], false⟩,
                  ⟨(some 55), .mv (.t 10), none, [], false⟩,
                  ⟨(some 56), .bin .add (.t 54) (.t 55), none, [], false⟩,
                  ⟨(some 57), .iad 1 (.t 53) (.t 56), none, [], false⟩,
                  ⟨(some 58), .ld1 (.t 57), none, [], false⟩,
                  ⟨(some 59), .mv (.t 0), none, [], false⟩,
                  ⟨(some 60), .mv (.t 9), none, [], false⟩,
                  ⟨(some 61), .iad 1 (.t 59) (.t 60), none, [], false⟩,
                  ⟨(some 62), .ld1 (.t 61), none, [], false⟩,
                  ⟨(some 63), .iad 1 (.t 47) (.t 48), none, [], false⟩,
                  ⟨none, .st 1 (.t 63) (.t 58), none, [], false⟩,
                  ⟨(some 64), .iad 1 (.t 49) (.t 52), none, [], false⟩,
                  ⟨none, .st 1 (.t 64) (.t 62), none, [], false⟩]))))
             (.reg [
               ⟨(some 34), .mv (.t 9), none, [], false⟩,
               ⟨(some 35), .bin .add (.t 34) (.k (.int .i64 1)), none, [], false⟩,
               ⟨(some 9), .mv (.t 35), none, [], false⟩]))))))))
      (.skip)))
/-- slices.order2Ordered[int] -/
def c175 : CF where
  np := 4
  nt := 28
  res := [.t 8, .t 9]
  code := .seq (.reg [
      ⟨(some 8), .mv (.k (.int .i64 0)), none, [], false⟩,
      ⟨(some 9), .mv (.k (.int .i64 0)), none, [], false⟩])
    (.seq (.seq (.reg [
        ⟨(some 10), .mv (.t 0), none, [], false⟩,
        ⟨(some 11), .mv (.t 2), none, [], false⟩,
        ⟨(some 12), .iad 1 (.t 10) (.t 11), none, [], false⟩,
        ⟨(some 13), .ld1 (.t 12), none, [], false⟩,
        ⟨(some 14), .mv (.t 0), none, [], false⟩,
        ⟨(some 15), .mv (.t 1), none, [], false⟩,
        ⟨(some 16), .iad 1 (.t 14) (.t 15), none, [], false⟩,
        ⟨(some 17), .ld1 (.t 16), none, [], false⟩,
        ⟨(some 18), .call (.k (.fn 68 [])) [(.t 13), (.t 17)], none, [], false⟩])
      (.cond (.t 18) (.seq (.reg [
          ⟨(some 19), .mv (.t 3), none, [], false⟩,
          ⟨(some 20), .nchk (.t 19), none, [], false⟩,
          ⟨(some 21), .ld1 (.t 20), none, [], false⟩,
          ⟨(some 22), .bin .add (.t 21) (.k (.int .i64 1)), none, [], false⟩,
          ⟨(some 23), .nchk (.t 19), none, [], false⟩,
          ⟨none, .st 1 (.t 23) (.t 22), none, [], false⟩])
        (.seq (.reg [
           ⟨(some 24), .mv (.t 2), none, [], false⟩,
           ⟨(some 25), .mv (.t 1), none, [], false⟩,
           ⟨(some 8), .mv (.t 24), none, [], false⟩,
           ⟨(some 9), .mv (.t 25), none, [], false⟩])
         (.ret)))
       (.skip)))
     (.seq (.reg [
        ⟨(some 26), .mv (.t 1), none, [], false⟩,
        ⟨(some 27), .mv (.t 2), none, [], false⟩,
        ⟨(some 8), .mv (.t 26), none, [], false⟩,
        ⟨(some 9), .mv (.t 27), none, [], false⟩])
      (.ret)))
/-- slices.medianOrdered[int] -/
def c169 : CF where
  np := 5
  nt := 36
  res := [.t 10]
  code := .seq (.reg [
      ⟨(some 10), .mv (.k (.int .i64 0)), none, [], false⟩])
    (.seq (.reg [
       ⟨(some 12), .mv (.t 0), none, [], false⟩,
       ⟨(some 13), .mv (.t 1), none, [], false⟩,
       ⟨(some 14), .mv (.t 2), none, [], false⟩,
       ⟨(some 15), .mv (.t 4), none, [], false⟩,
       ⟨(some 16), .call (.k (.fn 175 [])) [(.t 12), (.t 13), (.t 14), (.t 15)], none, [], false⟩,
       ⟨(some 11), .mv (.t 16), none, [], false⟩,
       ⟨(some 17), .ext (.t 11) 0, none, [], false⟩,
       ⟨(some 18), .ext (.t 11) 1, none, [], false⟩,
       ⟨(some 1), .mv (.t 17), none, [], false⟩,
       ⟨(some 2), .mv (.t 18), none, [], false⟩])
     (.seq (.reg [
        ⟨(some 20), .mv (.t 0), none, [], false⟩,
        ⟨(some 21), .mv (.t 2), none, [], false⟩,
        ⟨(some 22), .mv (.t 3), none, [], false⟩,
        ⟨(some 23), .mv (.t 4), none, [], false⟩,
        ⟨(some 24), .call (.k (.fn 175 [])) [(.t 20), (.t 21), (.t 22), (.t 23)], none, [], false⟩,
        ⟨(some 19), .mv (.t 24), none, [], false⟩,
        ⟨(some 25), .ext (.t 19) 0, none, [], false⟩,
        ⟨(some 26), .ext (.t 19) 1, none, [], false⟩,
        ⟨(some 2), .mv (.t 25), none, [], false⟩,
        ⟨(some 3), .mv (.t 26), none, [], false⟩])
      (.seq (.reg [
         ⟨(some 28), .mv (.t 0), none, [], false⟩,
         ⟨(some 29), .mv (.t 1), none, [], false⟩,
         ⟨(some 30), .mv (.t 2), none, [], false⟩,
         ⟨(some 31), .mv (.t 4), none, [], false⟩,
         ⟨(some 32), .call (.k (.fn 175 [])) [(.t 28), (.t 29), (.t 30), (.t 31)], none, [], false⟩,
         ⟨(some 27), .mv (.t 32), none, [], false⟩,
         ⟨(some 33), .ext (.t 27) 0, none, [], false⟩,
         ⟨(some 34), .ext (.t 27) 1, none, [], false⟩,
         ⟨(some 1), .mv (.t 33), none, [], false⟩,
         ⟨(some 2), .mv (.t 34), none, [], false⟩])
       (.seq (.reg [
          ⟨(some 35), .mv (.t 2), none, [], false⟩,
          ⟨(some 10), .mv (.t 35), none, [], false⟩])
        (.ret)))))
/-- slices.medianAdjacentOrdered[int] -/
def c168 : CF where
  np := 3
  nt := 15
  res := [.t 6]
  code := .seq (.reg [
      ⟨(some 6), .mv (.k (.int .i64 0)), none, [], false⟩])
    (.seq (.reg [
       ⟨(some 7), .mv (.t 0), none, [], false⟩,
       ⟨(some 8), .mv (.t 1), none, [], false⟩,
       ⟨(some 9), .bin .sub (.t 8) (.k (.int .i64 1)), none, [], false⟩,
       ⟨(some 10), .mv (.t 1), none, [], false⟩,
       ⟨(some 11), .mv (.t 1), none, [], false⟩,
       ⟨(some 12), .bin .add (.t 11) (.k (.int .i64 1)), none, [], false⟩,
       ⟨(some 13), .mv (.t 2), none, [], false⟩,
       ⟨(some 14), .call (.k (.fn 169 [])) [(.t 7), (.t 9), (.t 10), (.t 12), (.t 13)], none, [], false⟩,
       ⟨(some 6), .mv (.t 14), none, [], false⟩])
     (.ret))
/-- slices.choosePivotOrdered[int] -/
def c151 : CF where
  np := 3
  nt := 57
  res := [.t 6, .t 7]
  code := .seq (.reg [
      ⟨(some 6), .mv (.k (.int .i64 0)), none, [], false⟩,
      ⟨(some 7), .mv (.k (.int .i64 0)), none, [], false⟩])
    (.seq (.reg [
       ⟨(some 13), .mv (.t 2), none, [], false⟩,
       ⟨(some 14), .mv (.t 1), none, [], false⟩,
       ⟨(some 15), .bin .sub (.t 13) (.t 14), none, [], false⟩,
       ⟨(some 8), .mv (.t 15), none, [], false⟩])
     (.seq (.reg [
        ⟨(some 9), .new [.int .i64 0], none, [], false⟩])
      (.seq (.reg [
         ⟨(some 16), .mv (.t 1), none, [], false⟩,
         ⟨(some 17), .mv (.t 8), none, [], false⟩,
         ⟨(some 18), .bin .quo (.t 17) (.k (.int .i64 4)), none, [], false⟩,
         ⟨(some 19), .bin .mul (.t 18) (.k (.int .i64 1)), none, [], false⟩,
         ⟨(some 20), .bin .add (.t 16) (.t 19), none, [], false⟩,
         ⟨(some 10), .mv (.t 20), none, [], false⟩])
       (.seq (.reg [
          ⟨(some 21), .mv (.t 1), none, [], false⟩,
          ⟨(some 22), .mv (.t 8), none, [], false⟩,
          ⟨(some 23), .bin .quo (.t 22) (.k (.int .i64 4)), none, [], false⟩,
          ⟨(some 24), .bin .mul (.t 23) (.k (.int .i64 2)), none, [], false⟩,
          ⟨(some 25), .bin .add (.t 21) (.t 24), none, [], false⟩,
          ⟨(some 11), .mv (.t 25), none, [], false⟩])
        (.seq (.reg [
           ⟨(some 26), .mv (.t 1), none, [], false⟩,
           ⟨(some 27), .mv (.t 8), none, [], false⟩,
           ⟨(some 28), .bin .quo (.t 27) (.k (.int .i64 4)), none, [], false⟩,
           ⟨(some 29), .bin .mul (.t 28) (.k (.int .i64 3)), none, [], false⟩,
           ⟨(some 30), .bin .add (.t 26) (.t 29), none, [], false⟩,
           ⟨(some 12), .mv (.t 30), none, [], false⟩])
         (.seq (.seq (.reg [
             ⟨(some 31), .mv (.t 8), none, [], false⟩,
             ⟨(some 32), .bin .geq (.t 31) (.k (.int .i64 8)), none, [], false⟩])
           (.cond (.t 32) (.seq (.seq (.reg [
                ⟨(some 33), .mv (.t 8), none, [], false⟩,
                ⟨(some 34), .bin .geq (.t 33) (.k (.int .i64 50)), none, [], false⟩])
              (.cond (.t 34) (.seq (.reg [
                  ⟨(some 35), .mv (.t 0), none, [], false⟩,
                  ⟨(some 36), .mv (.t 10), none, [], false⟩,
                  ⟨(some 37), .call (.k (.fn 168 [])) [(.t 35), (.t 36), (.t 9)], none, [], false⟩,
                  ⟨(some 10), .mv (.t 37), none, [], false⟩])
                (.seq (.reg [
                   ⟨(some 38), .mv (.t 0), none, [], false⟩,
                   ⟨(some 39), .mv (.t 11), none, [], false⟩,
                   ⟨(some 40), .call (.k (.fn 168 [])) [(.t 38), (.t 39), (.t 9)], none, [], false⟩,
                   ⟨(some 11), .mv (.t 40), none, [], false⟩])
                 (.reg [
                   ⟨(some 41), .mv (.t 0), none, [], false⟩,
                   ⟨(some 42), .mv (.t 12), none, [], false⟩,
                   ⟨(some 43), .call (.k (.fn 168 [])) [(.t 41), (.t 42), (.t 9)], none, [], false⟩,
                   ⟨(some 12), .mv (.t 43), none, [], false⟩])))
               (.skip)))
             (.reg [
               ⟨(some 44), .mv (.t 0), none, [], false⟩,
               ⟨(some 45), .mv (.t 10), none, [], false⟩,
               ⟨(some 46), .mv (.t 11), none, [], false⟩,
               ⟨(some 47), .mv (.t 12), none, [], false⟩,
               ⟨(some 48), .call (.k (.fn 169 [])) [(.t 44), (.t 45), (.t 46), (.t 47), (.t 9)], none, [], false⟩,
               ⟨(some 11), .mv (.t 48), none, [], false⟩]))
            (.skip)))
          (.seq (.reg [
             ⟨(some 49), .ld1 (.t 9), none, [], false⟩])
           (.blk 0 (.seq (.reg [
               ⟨(some 52), .bin .eql (.t 49) (.k (.int .i64 0)), none, [], false⟩,
               ⟨(some 51), .mv (.t 52), none, [], false⟩])
             (.cond (.t 51) (.seq (.reg [
                 ⟨(some 53), .mv (.t 11), none, [], false⟩,
                 ⟨(some 6), .mv (.t 53), none, [], false⟩,
                 ⟨(some 7), .mv (.k (.int .i64 1)), none, [], false⟩])
               (.ret))
              (.seq (.reg [
                 ⟨(some 55), .bin .eql (.t 49) (.k (.int .i64 12)), none, [], false⟩,
                 ⟨(some 54), .mv (.t 55), none, [], false⟩])
               (.cond (.t 54) (.seq (.reg [
                   ⟨(some 56), .mv (.t 11), none, [], false⟩,
                   ⟨(some 6), .mv (.t 56), none, [], false⟩,
                   ⟨(some 7), .mv (.k (.int .i64 2)), none, [], false⟩])
                 (.ret))
                (.seq (.reg [
                   ⟨(some 50), .mv (.t 11), none, [], false⟩,
                   ⟨(some 6), .mv (.t 50), none, [], false⟩,
                   ⟨(some 7), .mv (.k (.int .i64 0)), none, [], false⟩])
                 (.ret))))))))))))))
/-- slices.reverseRangeOrdered[int] -/
def c152 : CF where
  np := 3
  nt := 32
  res := []
  code := .seq (.reg [
      ⟨(some 8), .mv (.t 1), none, [], false⟩,
      ⟨(some 6), .mv (.t 8), none, [], false⟩])
    (.seq (.reg [
       ⟨(some 9), .mv (.t 2), none, [], false⟩,
       ⟨(some 10), .bin .sub (.t 9) (.k (.int .i64 1)), none, [], false⟩,
       ⟨(some 7), .mv (.t 10), none, [], false⟩])
     (.blk 0 (.loop (.seq (.seq (.reg [
           ⟨(some 11), .mv (.t 6), none, [], false⟩,
           ⟨(some 12), .mv (.t 7), none, [], false⟩,
           ⟨(some 13), .bin .lss (.t 11) (.t 12), none, [], false⟩])
         (.cond (.t 13) (.skip)
          (.exit 0)))
        (.blk 1 (.seq (.reg [
            ⟨(some 14), .mv (.t 0), none, [], false⟩,
            ⟨(some 15), .mv (.t 6), none, [], false⟩,
            ⟨(some 16), .mv (.t 0), none, [], false⟩,
            ⟨(some 17), .mv (.t 7), none, [], false⟩,
            ⟨(some 18), .mv (.t 0), none, [], false⟩,
            ⟨(some 19), .mv (.t 7), none, [], false⟩,
            ⟨(some 20), .iad 1 (.t 18) (.t 19), none, [], false⟩,
            ⟨(some 21), .ld1 (.t 20), none, [], false⟩,
            ⟨(some 22), .mv (.t 0), none, [], false⟩,
            ⟨(some 23), .mv (.t 6), none, [], false⟩,
            ⟨(some 24), .iad 1 (.t 22) (.t 23), none, [], false⟩,
            ⟨(some 25), .ld1 (.t 24), none, [], false⟩,
            ⟨(some 26), .iad 1 (.t 14) (.t 15), none, [], false⟩,
            ⟨none, .st 1 (.t 26) (.t 21), none, [], false⟩,
            ⟨(some 27), .iad 1 (.t 16) (.t 17), none, [], false⟩,
            ⟨none, .st 1 (.t 27) (.t 25), none, [], false⟩])
          (.seq (.reg [
             ⟨(some 28), .mv (.t 6), none, [], false⟩,
             ⟨(some 29), .bin .add (.t 28) (.k (.int .i64 1)), none, [], false⟩,
             ⟨(some 6), .mv (.t 29), none, [], false⟩])
           (.reg [
             ⟨(some 30), .mv (.t 7), none, [], false⟩,
             ⟨(some 31), .bin .sub (.t 30) (.k (.int .i64 1)), none, [], false⟩,
             ⟨(some 7), .mv (.t 31), none, [], false⟩]))))))))
/-- slices.partialInsertionSortOrdered[int] -/
def c153 : CF where
  np := 3
  nt := 133
  res := [.t 6]
  code := .seq (.reg [
      ⟨(some 6), .mv (.k (.bool false)), none, [], false⟩])
    (.seq (.reg [
       ⟨(some 11), .mv (.t 1), none, [], false⟩,
       ⟨(some 12), .bin .add (.t 11) (.k (.int .i64 1)), none, [], false⟩,
       ⟨(some 7), .mv (.t 12), none, [], false⟩])
     (.seq (.seq (.reg [
         ⟨(some 8), .mv (.k (.int .i64 0)), none, [], false⟩])
       (.blk 0 (.loop (.seq (.seq (.reg [
             ⟨(some 13), .mv (.t 8), none, [], false⟩,
             ⟨(some 14), .bin .lss (.t 13) (.k (.int .i64 5)), none, [], false⟩])
           (.cond (.t 14) (.skip)
            (.exit 0)))
          (.seq (.blk 1 (.seq (.blk 2 (.loop (.seq (.seq (.reg [
                   ⟨(some 17), .mv (.t 7), none, [], false⟩,
                   ⟨(some 18), .mv (.t 2), none, [], false⟩,
                   ⟨(some 19), .bin .lss (.t 17) (.t 18), none, [], false⟩,
                   ⟨(some 20), .mv (.t 19), none, [], false⟩,
                   ⟨(some 21), .mv (.t 0), (some (20, true)), [], false⟩,
                   ⟨(some 22), .mv (.t 7), (some (20, true)), [], false⟩,
                   ⟨(some 23), .iad 1 (.t 21) (.t 22), (some (20, true)), [], false⟩,
                   ⟨(some 24), .ld1 (.t 23), (some (20, true)), [], false⟩,
                   ⟨(some 25), .mv (.t 0), (some (20, true)), [], false⟩,
                   ⟨(some 26), .mv (.t 7), (some (20, true)), [], false⟩,
                   ⟨(some 27), .bin .sub (.t 26) (.k (.int .i64 1)), (some (20, true)), [], false⟩,
                   ⟨(some 28), .iad 1 (.t 25) (.t 27), (some (20, true)), [], false⟩,
                   ⟨(some 29), .ld1 (.t 28), (some (20, true)), [], false⟩,
                   ⟨(some 30), .call (.k (.fn 68 [])) [(.t 24), (.t 29)], (some (20, true)), [], false⟩,
                   ⟨(some 31), .un .not (.t 30), (some (20, true)), [], false⟩,
                   ⟨(some 32), .pick (.t 20) (.t 31) (.k (.bool false)), none, [], false⟩])
                 (.cond (.t 32) (.skip)
                  (.exit 2)))
                (.blk 3 (.reg [
                   ⟨(some 33), .mv (.t 7), none, [], false⟩,
                   ⟨(some 34), .bin .add (.t 33) (.k (.int .i64 1)), none, [], false⟩,
                   ⟨(some 7), .mv (.t 34), none, [], false⟩])))))
             (.seq (.seq (.reg [
                 ⟨(some 35), .mv (.t 7), none, [], false⟩,
                 ⟨(some 36), .mv (.t 2), none, [], false⟩,
                 ⟨(some 37), .bin .eql (.t 35) (.t 36), none, [], false⟩])
               (.cond (.t 37) (.seq (.reg [
                   ⟨(some 6), .mv (.k (.bool true)), none, [], false⟩])
                 (.ret))
                (.skip)))
              (.seq (.seq (.reg [
                  ⟨(some 38), .mv (.t 2), none, [], false⟩,
                  ⟨(some 39), .mv (.t 1), none, [], false⟩,
                  ⟨(some 40), .bin .sub (.t 38) (.t 39), none, [], false⟩,
                  ⟨(some 41), .bin .lss (.t 40) (.k (.int .i64 50)), none, [], false⟩])
                (.cond (.t 41) (.seq (.reg [
                    ⟨(some 6), .mv (.k (.bool false)), none, [], false⟩])
                  (.ret))
                 (.skip)))
               (.seq (.reg [
                  ⟨(some 42), .mv (.t 0), none, [], false⟩,
                  ⟨(some 43), .mv (.t 7), none, [], false⟩,
                  ⟨(some 44), .mv (.t 0), none, [], false⟩,
                  ⟨(some 45), .mv (.t 7), none, [], false⟩,
                  ⟨(some 46), .bin .sub (.t 45) (.k (.int .i64 1)), none, [], false⟩,
                  ⟨(some 47), .mv (.t 0), none, [], false⟩,
                  ⟨(some 48), .mv (.t 7), none, [], false⟩,
                  ⟨(some 49), .bin .sub (.t 48) (.k (.int .i64 1)), none, [], false⟩,
                  ⟨(some 50), .iad 1 (.t 47) (.t 49), none, [], false⟩,
                  ⟨(some 51), .ld1 (.t 50), none, [], false⟩,
                  ⟨(some 52), .mv (.t 0), none, [], false⟩,
                  ⟨(some 53), .mv (.t 7), none, [], false⟩,
                  ⟨(some 54), .iad 1 (.t 52) (.t 53), none, [], false⟩,
                  ⟨(some 55), .ld1 (.t 54), none, [], false⟩,
                  ⟨(some 56), .iad 1 (.t 42) (.t 43), none, [], false⟩,
                  ⟨none, .st 1 (.t 56) (.t 51), none, [], false⟩,
                  ⟨(some 57), .iad 1 (.t 44) (.t 46), none, [], false⟩,
                  ⟨none, .st 1 (.t 57) (.t 55), none, [], false⟩])
                (.seq (.seq (.reg [
                    ⟨(some 58), .mv (.t 7), none, [], false⟩,
                    ⟨(some 59), .mv (.t 1), none, [], false⟩,
                    ⟨(some 60), .bin .sub (.t 58) (.t 59), none, [], false⟩,
                    ⟨(some 61), .bin .geq (.t 60) (.k (.int .i64 2)), none, [], false⟩])
                  (.cond (.t 61) (.seq (.reg [
                      ⟨(some 62), .mv (.t 7), none, [], false⟩,
                      ⟨(some 63), .bin .sub (.t 62) (.k (.int .i64 1)), none, [], false⟩,
                      ⟨(some 9), .mv (.t 63), none, [], false⟩])
                    (.blk 4 (.loop (.seq (.seq (.reg [
                          ⟨(some 64), .mv (.t 9), none, [], false⟩,
                          ⟨(some 65), .bin .geq (.t 64) (.k (.int .i64 1)), none, [], false⟩])
                        (.cond (.t 65) (.skip)
                         (.exit 4)))
                       (.seq (.blk 5 (.seq (.seq (.reg [
                             ⟨(some 68), .mv (.t 0), none, [], false⟩,
                             ⟨(some 69), .mv (.t 9), none, [], false⟩,
                             ⟨(some 70), .iad 1 (.t 68) (.t 69), none, [], false⟩,
                             ⟨(some 71), .ld1 (.t 70), none, [], false⟩,
                             ⟨(some 72), .mv (.t 0), none, [], false⟩,
                             ⟨(some 73), .mv (.t 9), none, [], false⟩,
                             ⟨(some 74), .bin .sub (.t 73) (.k (.int .i64 1)), none, [], false⟩,
                             ⟨(some 75), .iad 1 (.t 72) (.t 74), none, [], false⟩,
                             ⟨(some 76), .ld1 (.t 75), none, [], false⟩,
                             ⟨(some 77), .call (.k (.fn 68 [])) [(.t 71), (.t 76)], none, [], false⟩,
                             ⟨(some 78), .un .not (.t 77), none, [], false⟩])
                           (.cond (.t 78) (.exit 4)
                            (.skip)))
                          (.reg [
                            ⟨(some 79), .mv (.t 0), none, [], false⟩,
                            ⟨(some 80), .mv (.t 9), none, [], false⟩,
                            ⟨(some 81), .mv (.t 0), none, [], false⟩,
                            ⟨(some 82), .mv (.t 9), none, [], false⟩,
                            ⟨(some 83), .bin .sub (.t 82) (.k (.int .i64 1)), none, [], false⟩,
                            ⟨(some 84), .mv (.t 0), none, [], false⟩,
                            ⟨(some 85), .mv (.t 9), none, [], false⟩,
                            ⟨(some 86), .bin .sub (.t 85) (.k (.int .i64 1)), none, [], false⟩,
                            ⟨(some 87), .iad 1 (.t 84) (.t 86), none, [], false⟩,
                            ⟨(some 88), .ld1 (.t 87), none, [], false⟩,
                            ⟨(some 89), .mv (.t 0), none, [], false⟩,
                            ⟨(some 90), .mv (.t 9), none, [], false⟩,
                            ⟨(some 91), .iad 1 (.t 89) (.t 90), none, [], false⟩,
                            ⟨(some 92), .ld1 (.t 91), none, [], false⟩,
                            ⟨(some 93), .iad 1 (.t 79) (.t 80), none, [], false⟩,
                            ⟨none, .st 1 (.t 93) (.t 88), none, [], false⟩,
                            ⟨(some 94), .iad 1 (.t 81) (.t 83), none, [], false⟩,
                            ⟨none, .st 1 (.t 94) (.t 92), none, [], false⟩])))
                        (.reg [
                          ⟨(some 66), .mv (.t 9), none, [], false⟩,
                          ⟨(some 67), .bin .sub (.t 66) (.k (.int .i64 1)), none, [], false⟩,
                          ⟨(some 9), .mv (.t 67), none, [], false⟩]))))))
                   (.skip)))
                 (.seq (.reg [
                    ⟨(some 95), .mv (.t 2), none, [], false⟩,
                    ⟨(some 96), .mv (.t 7), none, [], false⟩,
                    ⟨(some 97), .bin .sub (.t 95) (.t 96), none, [], false⟩,
                    ⟨(some 98), .bin .geq (.t 97) (.k (.int .i64 2)), none, [], false⟩])
                  (.cond (.t 98) (.seq (.reg [
                      ⟨(some 99), .mv (.t 7), none, [], false⟩,
                      ⟨(some 100), .bin .add (.t 99) (.k (.int .i64 1)), none, [], false⟩,
                      ⟨(some 10), .mv (.t 100), none, [], false⟩])
                    (.blk 6 (.loop (.seq (.seq (.reg [
                          ⟨(some 101), .mv (.t 10), none, [], false⟩,
                          ⟨(some 102), .mv (.t 2), none, [], false⟩,
                          ⟨(some 103), .bin .lss (.t 101) (.t 102), none, [], false⟩])
                        (.cond (.t 103) (.skip)
                         (.exit 6)))
                       (.seq (.blk 7 (.seq (.seq (.reg [
                             ⟨(some 106), .mv (.t 0), none, [], false⟩,
                             ⟨(some 107), .mv (.t 10), none, [], false⟩,
                             ⟨(some 108), .iad 1 (.t 106) (.t 107), none, [], false⟩,
                             ⟨(some 109), .ld1 (.t 108), none, [], false⟩,
                             ⟨(some 110), .mv (.t 0), none, [], false⟩,
                             ⟨(some 111), .mv (.t 10), none, [], false⟩,
                             ⟨(some 112), .bin .sub (.t 111) (.k (.int .i64 1)), none, [], false⟩,
                             ⟨(some 113), .iad 1 (.t 110) (.t 112), none, [], false⟩,
                             ⟨(some 114), .ld1 (.t 113), none, [], false⟩,
                             ⟨(some 115), .call (.k (.fn 68 [])) [(.t 109), (.t 114)], none, [], false⟩,
                             ⟨(some 116), .un .not (.t 115), none, [], false⟩])
                           (.cond (.t 116) (.exit 6)
                            (.skip)))
                          (.reg [
                            ⟨(some 117), .mv (.t 0), none, [], false⟩,
                            ⟨(some 118), .mv (.t 10), none, [], false⟩,
                            ⟨(some 119), .mv (.t 0), none, [], false⟩,
                            ⟨(some 120), .mv (.t 10), none, [], false⟩,
                            ⟨(some 121), .bin .sub (.t 120) (.k (.int .i64 1)), none, [], false⟩,
                            ⟨(some 122), .mv (.t 0), none, [], false⟩,
                            ⟨(some 123), .mv (.t 10), none, [], false⟩,
                            ⟨(some 124), .bin .sub (.t 123) (.k (.int .i64 1)), none, [], false⟩,
                            ⟨(some 125), .iad 1 (.t 122) (.t 124), none, [], false⟩,
                            ⟨(some 126), .ld1 (.t 125), none, [], false⟩,
                            ⟨(some 127), .mv (.t 0), none, [], false⟩,
                            ⟨(some 128), .mv (.t 10), none, [], false⟩,
                            ⟨(some 129), .iad 1 (.t 127) (.t 128), none, [], false⟩,
                            ⟨(some 130), .ld1 (.t 129), none, [], false⟩,
                            ⟨(some 131), .iad 1 (.t 117) (.t 118), none, [], false⟩,
                            ⟨none, .st 1 (.t 131) (.t 126), none, [], false⟩,
                            ⟨(some 132), .iad 1 (.t 119) (.t 121), none, [], false⟩,
                            ⟨none, .st 1 (.t 132) (.t 130), none, [], false⟩])))
                        (.reg [
                          ⟨(some 104), .mv (.t 10), none, [], false⟩,
                          ⟨(some 105), .bin .add (.t 104) (.k (.int .i64 1)), none, [], false⟩,
                          ⟨(some 10), .mv (.t 105), none, [], false⟩]))))))
                   (.skip)))))))))
           (.reg [
             ⟨(some 15), .mv (.t 8), none, [], false⟩,
             ⟨(some 16), .bin .add (.t 15) (.k (.int .i64 1)), none, [], false⟩,
             ⟨(some 8), .mv (.t 16), none, [], false⟩]))))))
      (.seq (.reg [
         ⟨(some 6), .mv (.k (.bool false)), none, [], false⟩])
       (.ret))))
/-- slices.partitionEqualOrdered[int] -/
def c154 : CF where
  np := 4
  nt := 84
  res := [.t 8]
  code := .seq (.reg [
      ⟨(some 8), .mv (.k (.int .i64 0)), none, [], false⟩])
    (.seq (.reg [
       ⟨(some 11), .mv (.t 0), none, [], false⟩,
       ⟨(some 12), .mv (.t 1), none, [], false⟩,
       ⟨(some 13), .mv (.t 0), none, [], false⟩,
       ⟨(some 14), .mv (.t 3), none, [], false⟩,
       ⟨(some 15), .mv (.t 0), none, [], false⟩,
       ⟨(some 16), .mv (.t 3), none, [], false⟩,
       ⟨(some 17), .iad 1 (.t 15) (.t 16), none, [], false⟩,
       ⟨(some 18), .ld1 (.t 17), none, [], false⟩,
       ⟨(some 19), .mv (.t 0), none, [], false⟩,
       ⟨(some 20), .mv (.t 1), none, [], false⟩,
       ⟨(some 21), .iad 1 (.t 19) (.t 20), none, [], false⟩,
       ⟨(some 22), .ld1 (.t 21), none, [], false⟩,
       ⟨(some 23), .iad 1 (.t 11) (.t 12), none, [], false⟩,
       ⟨none, .st 1 (.t 23) (.t 18), none, [], false⟩,
       ⟨(some 24), .iad 1 (.t 13) (.t 14), none, [], false⟩,
       ⟨none, .st 1 (.t 24) (.t 22), none, [], false⟩])
     (.seq (.reg [
        ⟨(some 25), .mv (.t 1), none, [], false⟩,
        ⟨(some 26), .bin .add (.t 25) (.k (.int .i64 1)), none, [], false⟩,
        ⟨(some 27), .mv (.t 2), none, [], false⟩,
        ⟨(some 28), .bin .sub (.t 27) (.k (.int .i64 1)), none, [], false⟩,
        ⟨(some 9), .mv (.t 26), none, [], false⟩,
        ⟨(some 10), .mv (.t 28), none, [], false⟩])
      (.seq (.blk 0 (.loop (.blk 1 (.seq (.blk 2 (.loop (.seq (.seq (.reg [
                 ⟨(some 29), .mv (.t 9), none, [], false⟩,
                 ⟨(some 30), .mv (.t 10), none, [], false⟩,
                 ⟨(some 31), .bin .leq (.t 29) (.t 30), none, [], false⟩,
                 ⟨(some 32), .mv (.t 31), none, [], false⟩,
                 ⟨(some 33), .mv (.t 0), (some (32, true)), [], false⟩,
                 ⟨(some 34), .mv (.t 1), (some (32, true)), [], false⟩,
                 ⟨(some 35), .iad 1 (.t 33) (.t 34), (some (32, true)), [], false⟩,
                 ⟨(some 36), .ld1 (.t 35), (some (32, true)), [], false⟩,
                 ⟨(some 37), .mv (.t 0), (some (32, true)), [], false⟩,
                 ⟨(some 38), .mv (.t 9), (some (32, true)), [], false⟩,
                 ⟨(some 39), .iad 1 (.t 37) (.t 38), (some (32, true)), [], false⟩,
                 ⟨(some 40), .ld1 (.t 39), (some (32, true)), [], false⟩,
                 ⟨(some 41), .call (.k (.fn 68 [])) [(.t 36), (.t 40)], (some (32, true)), [], false⟩,
                 ⟨(some 42), .un .not (.t 41), (some (32, true)), [], false⟩,
                 ⟨(some 43), .pick (.t 32) (.t 42) (.k (.bool false)), none, [], false⟩])
               (.cond (.t 43) (.skip)
                (.exit 2)))
              (.blk 3 (.reg [
                 ⟨(some 44), .mv (.t 9), none, [], false⟩,
                 ⟨(some 45), .bin .add (.t 44) (.k (.int .i64 1)), none, [], false⟩,
                 ⟨(some 9), .mv (.t 45), none, [], false⟩])))))
           (.seq (.blk 4 (.loop (.seq (.seq (.reg [
                  ⟨(some 46), .mv (.t 9), none, [], false⟩,
                  ⟨(some 47), .mv (.t 10), none, [], false⟩,
                  ⟨(some 48), .bin .leq (.t 46) (.t 47), none, [], false⟩,
                  ⟨(some 49), .mv (.t 48), none, [], false⟩,
                  ⟨(some 50), .mv (.t 0), (some (49, true)), [], false⟩,
                  ⟨(some 51), .mv (.t 1), (some (49, true)), [], false⟩,
                  ⟨(some 52), .iad 1 (.t 50) (.t 51), (some (49, true)), [], false⟩,
                  ⟨(some 53), .ld1 (.t 52), (some (49, true)), [], false⟩,
                  ⟨(some 54), .mv (.t 0), (some (49, true)), [], false⟩,
                  ⟨(some 55), .mv (.t 10), (some (49, true)), [], false⟩,
                  ⟨(some 56), .iad 1 (.t 54) (.t 55), (some (49, true)), [], false⟩,
                  ⟨(some 57), .ld1 (.t 56), (some (49, true)), [], false⟩,
                  ⟨(some 58), .call (.k (.fn 68 [])) [(.t 53), (.t 57)], (some (49, true)), [], false⟩,
                  ⟨(some 59), .pick (.t 49) (.t 58) (.k (.bool false)), none, [], false⟩])
                (.cond (.t 59) (.skip)
                 (.exit 4)))
               (.blk 5 (.reg [
                  ⟨(some 60), .mv (.t 10), none, [], false⟩,
                  ⟨(some 61), .bin .sub (.t 60) (.k (.int .i64 1)), none, [], false⟩,
                  ⟨(some 10), .mv (.t 61), none, [], false⟩])))))
            (.seq (.seq (.reg [
                ⟨(some 62), .mv (.t 9), none, [], false⟩,
                ⟨(some 63), .mv (.t 10), none, [], false⟩,
                ⟨(some 64), .bin .gtr (.t 62) (.t 63), none, [], false⟩])
              (.cond (.t 64) (.exit 0)
               (.skip)))
             (.seq (.reg [
                ⟨(some 65), .mv (.t 0), none, [], false⟩,
                ⟨(some 66), .mv (.t 9), none, [], false⟩,
                ⟨(some 67), .mv (.t 0), none, [], false⟩,
                ⟨(some 68), .mv (.t 10), none, [], false⟩,
                ⟨(some 69), .mv (.t 0), none, [], false⟩,
                ⟨(some 70), .mv (.t 10), none, [], false⟩,
                ⟨(some 71), .iad 1 (.t 69) (.t 70), none, [], false⟩,
                ⟨(some 72), .ld1 (.t 71), none, [], false⟩,
                ⟨(some 73), .mv (.t 0), none, [], false⟩,
                ⟨(some 74), .mv (.t 9), none, [], false⟩,
                ⟨(some 75), .iad 1 (.t 73) (.t 74), none, [], false⟩,
                ⟨(some 76), .ld1 (.t 75), none, [], false⟩,
                ⟨(some 77), .iad 1 (.t 65) (.t 66), none, [], false⟩,
                ⟨none, .st 1 (.t 77) (.t 72), none, [], false⟩,
                ⟨(some 78), .iad 1 (.t 67) (.t 68), none, [], false⟩,
                ⟨none, .st 1 (.t 78) (.t 76), none, [], false⟩])
              (.seq (.reg [
                 ⟨(some 79), .mv (.t 9), none, [], false⟩,
                 ⟨(some 80), .bin .add (.t 79) (.k (.int .i64 1)), none, [], false⟩,
                 ⟨(some 9), .mv (.t 80), none, [], false⟩])
               (.reg [
                 ⟨(some 81), .mv (.t 10), none, [], false⟩,
                 ⟨(some 82), .bin .sub (.t 81) (.k (.int .i64 1)), none, [], false⟩,
                 ⟨(some 10), .mv (.t 82), none, [], false⟩])))))))))
       (.seq (.reg [
          ⟨(some 83), .mv (.t 9), none, [], false⟩,
          ⟨(some 8), .mv (.t 83), none, [], false⟩])
        (.ret)))))
/-- slices.partitionOrdered[int] -/
def c155 : CF where
  np := 4
  nt := 168
  res := [.t 8, .t 9]
  code := .seq (.reg [
      ⟨(some 8), .mv (.k (.int .i64 0)), none, [], false⟩,
      ⟨(some 9), .mv (.k (.bool false)), none, [], false⟩])
    (.seq (.reg [
       ⟨(some 12), .mv (.t 0), none, [], false⟩,
       ⟨(some 13), .mv (.t 1), none, [], false⟩,
       ⟨(some 14), .mv (.t 0), none, [], false⟩,
       ⟨(some 15), .mv (.t 3), none, [], false⟩,
       ⟨(some 16), .mv (.t 0), none, [], false⟩,
       ⟨(some 17), .mv (.t 3), none, [], false⟩,
       ⟨(some 18), .iad 1 (.t 16) (.t 17), none, [], false⟩,
       ⟨(some 19), .ld1 (.t 18), none, [], false⟩,
       ⟨(some 20), .mv (.t 0), none, [], false⟩,
       ⟨(some 21), .mv (.t 1), none, [], false⟩,
       ⟨(some 22), .iad 1 (.t 20) (.t 21), none, [], false⟩,
       ⟨(some 23), .ld1 (.t 22), none, [], false⟩,
       ⟨(some 24), .iad 1 (.t 12) (.t 13), none, [], false⟩,
       ⟨none, .st 1 (.t 24) (.t 19), none, [], false⟩,
       ⟨(some 25), .iad 1 (.t 14) (.t 15), none, [], false⟩,
       ⟨none, .st 1 (.t 25) (.t 23), none, [], false⟩])
     (.seq (.reg [
        ⟨(some 26), .mv (.t 1), none, [], false⟩,
        ⟨(some 27), .bin .add (.t 26) (.k (.int .i64 1)), none, [], false⟩,
        ⟨(some 28), .mv (.t 2), none, [], false⟩,
        ⟨(some 29), .bin .sub (.t 28) (.k (.int .i64 1)), none, [], false⟩,
        ⟨(some 10), .mv (.t 27), none, [], false⟩,
        ⟨(some 11), .mv (.t 29), none, [], false⟩])
      (.seq (.blk 0 (.loop (.seq (.seq (.reg [
             ⟨(some 30), .mv (.t 10), none, [], false⟩,
             ⟨(some 31), .mv (.t 11), none, [], false⟩,
             ⟨(some 32), .bin .leq (.t 30) (.t 31), none, [], false⟩,
             ⟨(some 33), .mv (.t 32), none, [], false⟩,
             ⟨(some 34), .mv (.t 0), (some (33, true)), [], false⟩,
             ⟨(some 35), .mv (.t 10), (some (33, true)), [], false⟩,
             ⟨(some 36), .iad 1 (.t 34) (.t 35), (some (33, true)), [], false⟩,
             ⟨(some 37), .ld1 (.t 36), (some (33, true)), [], false⟩,
             ⟨(some 38), .mv (.t 0), (some (33, true)), [], false⟩,
             ⟨(some 39), .mv (.t 1), (some (33, true)), [], false⟩,
             ⟨(some 40), .iad 1 (.t 38) (.t 39), (some (33, true)), [], false⟩,
             ⟨(some 41), .ld1 (.t 40), (some (33, true)), [], false⟩,
             ⟨(some 42), .call (.k (.fn 68 [])) [(.t 37), (.t 41)], (some (33, true)), [], false⟩,
             ⟨(some 43), .pick (.t 33) (.t 42) (.k (.bool false)), none, [], false⟩])
           (.cond (.t 43) (.skip)
            (.exit 0)))
          (.blk 1 (.reg [
             ⟨(some 44), .mv (.t 10), none, [], false⟩,
             ⟨(some 45), .bin .add (.t 44) (.k (.int .i64 1)), none, [], false⟩,
             ⟨(some 10), .mv (.t 45), none, [], false⟩])))))
       (.seq (.blk 2 (.loop (.seq (.seq (.reg [
              ⟨(some 46), .mv (.t 10), none, [], false⟩,
              ⟨(some 47), .mv (.t 11), none, [], false⟩,
              ⟨(some 48), .bin .leq (.t 46) (.t 47), none, [], false⟩,
              ⟨(some 49), .mv (.t 48), none, [], false⟩,
              ⟨(some 50), .mv (.t 0), (some (49, true)), [], false⟩,
              ⟨(some 51), .mv (.t 11), (some (49, true)), [], false⟩,
              ⟨(some 52), .iad 1 (.t 50) (.t 51), (some (49, true)), [], false⟩,
              ⟨(some 53), .ld1 (.t 52), (some (49, true)), [], false⟩,
              ⟨(some 54), .mv (.t 0), (some (49, true)), [], false⟩,
              ⟨(some 55), .mv (.t 1), (some (49, true)), [], false⟩,
              ⟨(some 56), .iad 1 (.t 54) (.t 55), (some (49, true)), [], false⟩,
              ⟨(some 57), .ld1 (.t 56), (some (49, true)), [], false⟩,
              ⟨(some 58), .call (.k (.fn 68 [])) [(.t 53), (.t 57)], (some (49, true)), [], false⟩,
              ⟨(some 59), .un .not (.t 58), (some (49, true)), [], false⟩,
              ⟨(some 60), .pick (.t 49) (.t 59) (.k (.bool false)), none, [], false⟩])
            (.cond (.t 60) (.skip)
             (.exit 2)))
           (.blk 3 (.reg [
              ⟨(some 61), .mv (.t 11), none, [], false⟩,
              ⟨(some 62), .bin .sub (.t 61) (.k (.int .i64 1)), none, [], false⟩,
              ⟨(some 11), .mv (.t 62), none, [], false⟩])))))
        (.seq (.seq (.reg [
            ⟨(some 63), .mv (.t 10), none, [], false⟩,
            ⟨(some 64), .mv (.t 11), none, [], false⟩,
            ⟨(some 65), .bin .gtr (.t 63) (.t 64), none, [], false⟩])
          (.cond (.t 65) (.seq (.reg [
              ⟨(some 66), .mv (.t 0), none, [], false⟩,
              ⟨(some 67), .mv (.t 11), none, [], false⟩,
              ⟨(some 68), .mv (.t 0), none, [], false⟩,
              ⟨(some 69), .mv (.t 1), none, [], false⟩,
              ⟨(some 70), .mv (.t 0), none, [], false⟩,
              ⟨(some 71), .mv (.t 1), none, [], false⟩,
              ⟨(some 72), .iad 1 (.t 70) (.t 71), none, [], false⟩,
              ⟨(some 73), .ld1 (.t 72), none, [], false⟩,
              ⟨(some 74), .mv (.t 0), none, [], false⟩,
              ⟨(some 75), .mv (.t 11), none, [], false⟩,
              ⟨(some 76), .iad 1 (.t 74) (.t 75), none, [], false⟩,
              ⟨(some 77), .ld1 (.t 76), none, [], false⟩,
              ⟨(some 78), .iad 1 (.t 66) (.t 67), none, [], false⟩,
              ⟨none, .st 1 (.t 78) (.t 73), none, [], false⟩,
              ⟨(some 79), .iad 1 (.t 68) (.t 69), none, [], false⟩,
              ⟨none, .st 1 (.t 79) (.t 77), none, [], false⟩])
            (.seq (.reg [
               ⟨(some 80), .mv (.t 11), none, [], false⟩,
               ⟨(some 8), .mv (.t 80), none, [], false⟩,
               ⟨(some 9), .mv (.k (.bool true)), none, [], false⟩])
             (.ret)))
           (.skip)))
         (.seq (.reg [
            ⟨(some 81), .mv (.t 0), none, [], false⟩,
            ⟨(some 82), .mv (.t 10), none, [], false⟩,
            ⟨(some 83), .mv (.t 0), none, [], false⟩,
            ⟨(some 84), .mv (.t 11), none, [], false⟩,
            ⟨(some 85), .mv (.t 0), none, [], false⟩,
            ⟨(some 86), .mv (.t 11), none, [], false⟩,
            ⟨(some 87), .iad 1 (.t 85) (.t 86), none, [], false⟩,
            ⟨(some 88), .ld1 (.t 87), none, [], false⟩,
            ⟨(some 89), .mv (.t 0), none, [], false⟩,
            ⟨(some 90), .mv (.t 10), none, [], false⟩,
            ⟨(some 91), .iad 1 (.t 89) (.t 90), none, [], false⟩,
            ⟨(some 92), .ld1 (.t 91), none, [], false⟩,
            ⟨(some 93), .iad 1 (.t 81) (.t 82), none, [], false⟩,
            ⟨none, .st 1 (.t 93) (.t 88), none, [], false⟩,
            ⟨(some 94), .iad 1 (.t 83) (.t 84), none, [], false⟩,
            ⟨none, .st 1 (.t 94) (.t 92), none, [], false⟩])
          (.seq (.reg [
             ⟨(some 95), .mv (.t 10), none, [], false⟩,
             ⟨(some 96), .bin .add (.t 95) (.k (.int .i64 1)), none, [], false⟩,
             ⟨(some 10), .mv (.t 96), none, [], false⟩])
           (.seq (.reg [
              ⟨(some 97), .mv (.t 11), none, [], false⟩,
              ⟨(some 98), .bin .sub (.t 97) (.k (.int .i64 1)), none, [], false⟩,
              ⟨(some 11), .mv (.t 98), none, [], false⟩])
            (.seq (.blk 4 (.loop (.blk 5 (.seq (.blk 6 (.loop (.seq (.seq (.reg [
                       ⟨(some 99), .mv (.t 10), none, [], false⟩,
                       ⟨(some 100), .mv (.t 11), none, [], false⟩,
                       ⟨(some 101), .bin .leq (.t 99) (.t 100), none, [], false⟩,
                       ⟨(some 102), .mv (.t 101), none, [], false⟩,
                       ⟨(some 103), .mv (.t 0), (some (102, true)), [], false⟩,
                       ⟨(some 104), .mv (.t 10), (some (102, true)), [], false⟩,
                       ⟨(some 105), .iad 1 (.t 103) (.t 104), (some (102, true)), [], false⟩,
                       ⟨(some 106), .ld1 (.t 105), (some (102, true)), [], false⟩,
                       ⟨(some 107), .mv (.t 0), (some (102, true)), [], false⟩,
                       ⟨(some 108), .mv (.t 1), (some (102, true)), [], false⟩,
                       ⟨(some 109), .iad 1 (.t 107) (.t 108), (some (102, true)), [], false⟩,
                       ⟨(some 110), .ld1 (.t 109), (some (102, true)), [], false⟩,
                       ⟨(some 111), .call (.k (.fn 68 [])) [(.t 106), (.t 110)], (some (102, true)), [], false⟩,
                       ⟨(some 112), .pick (.t 102) (.t 111) (.k (.bool false)), none, [], false⟩])
                     (.cond (.t 112) (.skip)
                      (.exit 6)))
                    (.blk 7 (.reg [
                       ⟨(some 113), .mv (.t 10), none, [], false⟩,
                       ⟨(some 114), .bin .add (.t 113) (.k (.int .i64 1)), none, [], false⟩,
                       ⟨(some 10), .mv (.t 114), none, [], false⟩])))))
                 (.seq (.blk 8 (.loop (.seq (.seq (.reg [
                        ⟨(some 115), .mv (.t 10), none, [], false⟩,
                        ⟨(some 116), .mv (.t 11), none, [], false⟩,
                        ⟨(some 117), .bin .leq (.t 115) (.t 116), none, [], false⟩,
                        ⟨(some 118), .mv (.t 117), none, [], false⟩,
                        ⟨(some 119), .mv (.t 0), (some (118, true)), [], false⟩,
                        ⟨(some 120), .mv (.t 11), (some (118, true)), [], false⟩,
                        ⟨(some 121), .iad 1 (.t 119) (.t 120), (some (118, true)), [], false⟩,
                        ⟨(some 122), .ld1 (.t 121), (some (118, true)), [], false⟩,
                        ⟨(some 123), .mv (.t 0), (some (118, true)), [], false⟩,
                        ⟨(some 124), .mv (.t 1), (some (118, true)), [], false⟩,
                        ⟨(some 125), .iad 1 (.t 123) (.t 124), (some (118, true)), [], false⟩,
                        ⟨(some 126), .ld1 (.t 125), (some (118, true)), [], false⟩,
                        ⟨(some 127), .call (.k (.fn 68 [])) [(.t 122), (.t 126)], (some (118, true)), [], false⟩,
                        ⟨(some 128), .un .not (.t 127), (some (118, true)), [], false⟩,
                        ⟨(some 129), .pick (.t 118) (.t 128) (.k (.bool false)), none, [], false⟩])
                      (.cond (.t 129) (.skip)
                       (.exit 8)))
                     (.blk 9 (.reg [
                        ⟨(some 130), .mv (.t 11), none, [], false⟩,
                        ⟨(some 131), .bin .sub (.t 130) (.k (.int .i64 1)), none, [], false⟩,
                        ⟨(some 11), .mv (.t 131), none, [], false⟩])))))
                  (.seq (.seq (.reg [
                      ⟨(some 132), .mv (.t 10), none, [], false⟩,
                      ⟨(some 133), .mv (.t 11), none, [], false⟩,
                      ⟨(some 134), .bin .gtr (.t 132) (.t 133), none, [], false⟩])
                    (.cond (.t 134) (.exit 4)
                     (.skip)))
                   (.seq (.reg [
                      ⟨(some 135), .mv (.t 0), none, [], false⟩,
                      ⟨(some 136), .mv (.t 10), none, [], false⟩,
                      ⟨(some 137), .mv (.t 0), none, [], false⟩,
                      ⟨(some 138), .mv (.t 11), none, [], false⟩,
                      ⟨(some 139), .mv (.t 0), none, [], false⟩,
                      ⟨(some 140), .mv (.t 11), none, [], false⟩,
                      ⟨(some 141), .iad 1 (.t 139) (.t 140), none, [], false⟩,
                      ⟨(some 142), .ld1 (.t 141), none, [], false⟩,
                      ⟨(some 143), .mv (.t 0), none, [], false⟩,
                      ⟨(some 144), .mv (.t 10), none, [], false⟩,
                      ⟨(some 145), .iad 1 (.t 143) (.t 144), none, [], false⟩,
                      ⟨(some 146), .ld1 (.t 145), none, [], false⟩,
                      ⟨(some 147), .iad 1 (.t 135) (.t 136), none, [], false⟩,
                      ⟨none, .st 1 (.t 147) (.t 142), none, [], false⟩,
                      ⟨(some 148), .iad 1 (.t 137) (.t 138), none, [], false⟩,
                      ⟨none, .st 1 (.t 148) (.t 146), none, [], false⟩])
                    (.seq (.reg [
                       ⟨(some 149), .mv (.t 10), none, [], false⟩,
                       ⟨(some 150), .bin .add (.t 149) (.k (.int .i64 1)), none, [], false⟩,
                       ⟨(some 10), .mv (.t 150), none, [], false⟩])
                     (.reg [
                       ⟨(some 151), .mv (.t 11), none, [], false⟩,
                       ⟨(some 152), .bin .sub (.t 151) (.k (.int .i64 1)), none, [], false⟩,
                       ⟨(some 11), .mv (.t 152), none, [], false⟩])))))))))
             (.seq (.reg [
                ⟨(some 153), .mv (.t 0), none, [], false⟩,
                ⟨(some 154), .mv (.t 11), none, [], false⟩,
                ⟨(some 155), .mv (.t 0), none, [], false⟩,
                ⟨(some 156), .mv (.t 1), none, [], false⟩,
                ⟨(some 157), .mv (.t 0), none, [], false⟩,
                ⟨(some 158), .mv (.t 1), none, [], false⟩,
                ⟨(some 159), .iad 1 (.t 157) (.t 158), none, [], false⟩,
                ⟨(some 160), .ld1 (.t 159), none, [], false⟩,
                ⟨(some 161), .mv (.t 0), none, [], false⟩,
                ⟨(some 162), .mv (.t 11), none, [], false⟩,
                ⟨(some 163), .iad 1 (.t 161) (.t 162), none, [], false⟩,
                ⟨(some 164), .ld1 (.t 163), none, [], false⟩,
                ⟨(some 165), .iad 1 (.t 153) (.t 154), none, [], false⟩,
                ⟨none, .st 1 (.t 165) (.t 160), none, [], false⟩,
                ⟨(some 166), .iad 1 (.t 155) (.t 156), none, [], false⟩,
                ⟨none, .st 1 (.t 166) (.t 164), none, [], false⟩])
              (.seq (.reg [
                 ⟨(some 167), .mv (.t 11), none, [], false⟩,
                 ⟨(some 8), .mv (.t 167), none, [], false⟩,
                 ⟨(some 9), .mv (.k (.bool false)), none, [], false⟩])
               (.ret))))))))))))
/-- slices.pdqsortOrdered[int] -/
def c123 : CF where
  np := 4
  nt := 134
  res := []
  code := .seq (.reg [
      ⟨(some 8), .mv (.k (.bool true)), none, [], false⟩])
    (.seq (.reg [
       ⟨(some 9), .mv (.k (.bool true)), none, [], false⟩])
     (.blk 0 (.loop (.blk 1 (.seq (.reg [
           ⟨(some 19), .mv (.t 2), none, [], false⟩,
           ⟨(some 20), .mv (.t 1), none, [], false⟩,
           ⟨(some 21), .bin .sub (.t 19) (.t 20), none, [], false⟩,
           ⟨(some 10), .mv (.t 21), none, [], false⟩])
         (.seq (.seq (.reg [
             ⟨(some 22), .mv (.t 10), none, [], false⟩,
             ⟨(some 23), .bin .leq (.t 22) (.k (.int .i64 12)), none, [], false⟩])
           (.cond (.t 23) (.seq (.reg [
               ⟨(some 24), .mv (.t 0), none, [], false⟩,
               ⟨(some 25), .mv (.t 1), none, [], false⟩,
               ⟨(some 26), .mv (.t 2), none, [], false⟩,
               ⟨(some 27), .call (.k (.fn 148 [])) [(.t 24), (.t 25), (.t 26)], none, [], false⟩])
             (.ret))
            (.skip)))
          (.seq (.seq (.reg [
              ⟨(some 28), .mv (.t 3), none, [], false⟩,
              ⟨(some 29), .bin .eql (.t 28) (.k (.int .i64 0)), none, [], false⟩])
            (.cond (.t 29) (.seq (.reg [
                ⟨(some 30), .mv (.t 0), none, [], false⟩,
                ⟨(some 31), .mv (.t 1), none, [], false⟩,
                ⟨(some 32), .mv (.t 2), none, [], false⟩,
                ⟨(some 33), .call (.k (.fn 149 [])) [(.t 30), (.t 31), (.t 32)], none, [], false⟩])
              (.ret))
             (.skip)))
           (.seq (.seq (.reg [
               ⟨(some 34), .mv (.t 8), none, [], false⟩,
               ⟨(some 35), .un .not (.t 34), none, [], false⟩])
             (.cond (.t 35) (.seq (.reg [
                 ⟨(some 36), .mv (.t 0), none, [], false⟩,
                 ⟨(some 37), .mv (.t 1), none, [], false⟩,
                 ⟨(some 38), .mv (.t 2), none, [], false⟩,
                 ⟨(some 39), .call (.k (.fn 150 [])) [(.t 36), (.t 37), (.t 38)], none, [], false⟩])
               (.reg [
                 ⟨(some 40), .mv (.t 3), none, [], false⟩,
                 ⟨(some 41), .bin .sub (.t 40) (.k (.int .i64 1)), none, [], false⟩,
                 ⟨(some 3), .mv (.t 41), none, [], false⟩]))
              (.skip)))
            (.seq (.reg [
               ⟨(some 43), .mv (.t 0), none, [], false⟩,
               ⟨(some 44), .mv (.t 1), none, [], false⟩,
               ⟨(some 45), .mv (.t 2), none, [], false⟩,
               ⟨(some 46), .call (.k (.fn 151 [])) [(.t 43), (.t 44), (.t 45)], none, [], false⟩,
               ⟨(some 42), .mv (.t 46), none, [], false⟩,
               ⟨(some 47), .ext (.t 42) 0, none, [], false⟩,
               ⟨(some 48), .ext (.t 42) 1, none, [], false⟩,
               ⟨(some 11), .mv (.t 47), none, [], false⟩,
               ⟨(some 12), .mv (.t 48), none, [], false⟩])
             (.seq (.seq (.reg [
                 ⟨(some 49), .mv (.t 12), none, [], false⟩,
                 ⟨(some 50), .bin .eql (.t 49) (.k (.int .i64 2)), none, [], false⟩])
               (.cond (.t 50) (.seq (.reg [
                   ⟨(some 51), .mv (.t 0), none, [], false⟩,
                   ⟨(some 52), .mv (.t 1), none, [], false⟩,
                   ⟨(some 53), .mv (.t 2), none, [], false⟩,
                   ⟨(some 54), .call (.k (.fn 152 [])) [(.t 51), (.t 52), (.t 53)], none, [], false⟩])
                 (.seq (.reg [
                    ⟨(some 55), .mv (.t 2), none, [], false⟩,
                    ⟨(some 56), .bin .sub (.t 55) (.k (.int .i64 1)), none, [], false⟩,
                    ⟨(some 57), .mv (.t 11), none, [], false⟩,
                    ⟨(some 58), .mv (.t 1), none, [], false⟩,
                    ⟨(some 59), .bin .sub (.t 57) (.t 58), none, [], false⟩,
                    ⟨(some 60), .bin .sub (.t 56) (.t 59), none, [], false⟩,
                    ⟨(some 11), .mv (.t 60), none, [], false⟩])
                  (.reg [
                    ⟨(some 12), .mv (.k (.int .i64 1)), none, [], false⟩])))
                (.skip)))
              (.seq (.seq (.reg [
                  ⟨(some 61), .mv (.t 8), none, [], false⟩,
                  ⟨(some 62), .mv (.t 61), none, [], false⟩,
                  ⟨(some 63), .mv (.t 9), (some (62, true)), [], false⟩,
                  ⟨(some 64), .pick (.t 62) (.t 63) (.k (.bool false)), none, [], false⟩,
                  ⟨(some 65), .mv (.t 64), none, [], false⟩,
                  ⟨(some 66), .mv (.t 12), (some (65, true)), [], false⟩,
                  ⟨(some 67), .bin .eql (.t 66) (.k (.int .i64 1)), (some (65, true)), [], false⟩,
                  ⟨(some 68), .pick (.t 65) (.t 67) (.k (.bool false)), none, [], false⟩])
                (.cond (.t 68) (.seq (.reg [
                    ⟨(some 69), .mv (.t 0), none, [], false⟩,
                    ⟨(some 70), .mv (.t 1), none, [], false⟩,
                    ⟨(some 71), .mv (.t 2), none, [], false⟩,
                    ⟨(some 72), .call (.k (.fn 153 [])) [(.t 69), (.t 70), (.t 71)], none, [], false⟩])
                  (.cond (.t 72) (.ret)
                   (.skip)))
                 (.skip)))
               (.seq (.seq (.reg [
                   ⟨(some 73), .mv (.t 1), none, [], false⟩,
                   ⟨(some 74), .bin .gtr (.t 73) (.k (.int .i64 0)), none, [], false⟩,
                   ⟨(some 75), .mv (.t 74), none, [], false⟩,
                   ⟨(some 76), .mv (.t 0), (some (75, true)), [], false⟩,
                   ⟨(some 77), .mv (.t 1), (some (75, true)), [], false⟩,
                   ⟨(some 78), .bin .sub (.t 77) (.k (.int .i64 1)), (some (75, true)), [], false⟩,
                   ⟨(some 79), .iad 1 (.t 76) (.t 78), (some (75, true)), [], false⟩,
                   ⟨(some 80), .ld1 (.t 79), (some (75, true)), [], false⟩,
                   ⟨(some 81), .mv (.t 0), (some (75, true)), [], false⟩,
                   ⟨(some 82), .mv (.t 11), (some (75, true)), [], false⟩,
                   ⟨(some 83), .iad 1 (.t 81) (.t 82), (some (75, true)), [], false⟩,
                   ⟨(some 84), .ld1 (.t 83), (some (75, true)), [], false⟩,
                   ⟨(some 85), .call (.k (.fn 68 [])) [(.t 80), (.t 84)], (some (75, true)), [], false⟩,
                   ⟨(some 86), .un .not (.t 85), (some (75, true)), [], false⟩,
                   ⟨(some 87), .pick (.t 75) (.t 86) (.k (.bool false)), none, [], false⟩])
                 (.cond (.t 87) (.seq (.reg [
                     ⟨(some 88), .mv (.t 0), none, [], false⟩,
                     ⟨(some 89), .mv (.t 1), none, [], false⟩,
                     ⟨(some 90), .mv (.t 2), none, [], false⟩,
                     ⟨(some 91), .mv (.t 11), none, [], false⟩,
                     ⟨(some 92), .call (.k (.fn 154 [])) [(.t 88), (.t 89), (.t 90), (.t 91)], none, [], false⟩,
                     ⟨(some 13), .mv (.t 92), none, [], false⟩])
                   (.seq (.reg [
                      ⟨(some 93), .mv (.t 13), none, [], false⟩,
                      ⟨(some 1), .mv (.t 93), none, [], false⟩])
                    (.exit 1)))
                  (.skip)))
                (.seq (.reg [
                   ⟨(some 95), .mv (.t 0), none, [], false⟩,
                   ⟨(some 96), .mv (.t 1), none, [], false⟩,
                   ⟨(some 97), .mv (.t 2), none, [], false⟩,
                   ⟨(some 98), .mv (.t 11), none, [], false⟩,
                   ⟨(some 99), .call (.k (.fn 155 [])) [(.t 95), (.t 96), (.t 97), (.t 98)], none, [], false⟩,
                   ⟨(some 94), .mv (.t 99), none, [], false⟩,
                   ⟨(some 100), .ext (.t 94) 0, none, [], false⟩,
                   ⟨(some 101), .ext (.t 94) 1, none, [], false⟩,
                   ⟨(some 14), .mv (.t 100), none, [], false⟩,
                   ⟨(some 15), .mv (.t 101), none, [], false⟩])
                 (.seq (.reg [
                    ⟨(some 102), .mv (.t 15), none, [], false⟩,
                    ⟨(some 9), .mv (.t 102), none, [], false⟩])
                  (.seq (.reg [
                     ⟨(some 103), .mv (.t 14), none, [], false⟩,
                     ⟨(some 104), .mv (.t 1), none, [], false⟩,
                     ⟨(some 105), .bin .sub (.t 103) (.t 104), none, [], false⟩,
                     ⟨(some 106), .mv (.t 2), none, [], false⟩,
                     ⟨(some 107), .mv (.t 14), none, [], false⟩,
                     ⟨(some 108), .bin .sub (.t 106) (.t 107), none, [], false⟩,
                     ⟨(some 16), .mv (.t 105), none, [], false⟩,
                     ⟨(some 17), .mv (.t 108), none, [], false⟩])
                   (.seq (.reg [
                      ⟨(some 109), .mv (.t 10), none, [], false⟩,
                      ⟨(some 110), .bin .quo (.t 109) (.k (.int .i64 8)), none, [], false⟩,
                      ⟨(some 18), .mv (.t 110), none, [], false⟩])
                    (.seq (.reg [
                       ⟨(some 111), .mv (.t 16), none, [], false⟩,
                       ⟨(some 112), .mv (.t 17), none, [], false⟩,
                       ⟨(some 113), .bin .lss (.t 111) (.t 112), none, [], false⟩])
                     (.cond (.t 113) (.seq (.reg [
                         ⟨(some 114), .mv (.t 16), none, [], false⟩,
                         ⟨(some 115), .mv (.t 18), none, [], false⟩,
                         ⟨(some 116), .bin .geq (.t 114) (.t 115), none, [], false⟩,
                         ⟨(some 8), .mv (.t 116), none, [], false⟩])
                       (.seq (.reg [
                          ⟨(some 117), .mv (.t 0), none, [], false⟩,
                          ⟨(some 118), .mv (.t 1), none, [], false⟩,
                          ⟨(some 119), .mv (.t 14), none, [], false⟩,
                          ⟨(some 120), .mv (.t 3), none, [], false⟩,
                          ⟨(some 121), .call (.k (.fn 123 [])) [(.t 117), (.t 118), (.t 119), (.t 120)], none, [], false⟩])
                        (.reg [
                          ⟨(some 122), .mv (.t 14), none, [], false⟩,
                          ⟨(some 123), .bin .add (.t 122) (.k (.int .i64 1)), none, [], false⟩,
                          ⟨(some 1), .mv (.t 123), none, [], false⟩])))
                      (.seq (.reg [
                         ⟨(some 124), .mv (.t 17), none, [], false⟩,
                         ⟨(some 125), .mv (.t 18), none, [], false⟩,
                         ⟨(some 126), .bin .geq (.t 124) (.t 125), none, [], false⟩,
                         ⟨(some 8), .mv (.t 126), none, [], false⟩])
                       (.seq (.reg [
                          ⟨(some 127), .mv (.t 0), none, [], false⟩,
                          ⟨(some 128), .mv (.t 14), none, [], false⟩,
                          ⟨(some 129), .bin .add (.t 128) (.k (.int .i64 1)), none, [], false⟩,
                          ⟨(some 130), .mv (.t 2), none, [], false⟩,
                          ⟨(some 131), .mv (.t 3), none, [], false⟩,
                          ⟨(some 132), .call (.k (.fn 123 [])) [(.t 127), (.t 129), (.t 130), (.t 131)], none, [], false⟩])
                        (.reg [
                          ⟨(some 133), .mv (.t 14), none, [], false⟩,
                          ⟨(some 2), .mv (.t 133), none, [], false⟩])))))))))))))))))))))
/-- slices.Sort[[]int,int] -/
def c106 : CF where
  np := 1
  nt := 11
  res := []
  code := .seq (.reg [
      ⟨(some 3), .mv (.t 0), none, [], false⟩,
      ⟨(some 4), .lenv false (.t 3), none, [], false⟩,
      ⟨(some 2), .mv (.t 4), none, [], false⟩])
    (.reg [
      ⟨(some 5), .mv (.t 0), none, [], false⟩,
      ⟨(some 6), .mv (.t 2), none, [], false⟩,
      ⟨(some 7), .mv (.t 2), none, [], false⟩,
      ⟨(some 8), .cvi .u64 (.t 7), none, [], false⟩,
      ⟨(some 9), .call (.k (.fn 109 [])) [(.t 8)], none, [], false⟩,
      ⟨(some 10), .call (.k (.fn 123 [])) [(.t 5), (.k (.int .i64 0)), (.t 6), (.t 9)], none, [], false⟩])
/-- skyway/bias.middle -/
def c70 : CF where
  np := 1
  nt := 12
  res := [.t 2]
  code := .seq (.reg [
      ⟨(some 2), .mv (.k (.int .i64 0)), none, [], false⟩])
    (.seq (.reg [
       ⟨(some 3), .mv (.t 0), none, [], false⟩,
       ⟨(some 4), .call (.k (.fn 106 [])) [(.t 3)], none, [], false⟩])
     (.seq (.reg [
        ⟨(some 5), .mv (.t 0), none, [], false⟩,
        ⟨(some 6), .mv (.t 0), none, [], false⟩,
        ⟨(some 7), .lenv false (.t 6), none, [], false⟩,
        ⟨(some 8), .bin .sub (.t 7) (.k (.int .i64 1)), none, [], false⟩,
        ⟨(some 9), .bin .quo (.t 8) (.k (.int .i64 2)), none, [], false⟩,
        ⟨(some 10), .iad 1 (.t 5) (.t 9), none, [], false⟩,
        ⟨(some 11), .ld1 (.t 10), none, [], false⟩,
        ⟨(some 2), .mv (.t 11), none, [], false⟩])
      (.ret)))
/-- skyway/bias.Check -/
def c71 : CF where
  np := 1
  nt := 31
  res := [.t 2]
  code := .seq (.reg [
      ⟨(some 1), .box (.t 0), none, [], false⟩,
      ⟨(some 2), .mv (.k (.int .i64 0)), none, [], false⟩])
    (.seq (.seq (.reg [
        ⟨(some 3), .fad 0 (.t 1), none, [], false⟩,
        ⟨(some 4), .ld1 (.t 3), none, [], false⟩,
        ⟨(some 5), .bin .lss (.t 4) (.k (.int .i64 (-10000))), none, [], false⟩,
        ⟨(some 6), .mv (.t 5), none, [], false⟩,
        ⟨(some 7), .fad 0 (.t 1), (some (6, false)), [], false⟩,
        ⟨(some 8), .ld1 (.t 7), (some (6, false)), [], false⟩,
        ⟨(some 9), .bin .gtr (.t 8) (.k (.int .i64 10000)), (some (6, false)), [], false⟩,
        ⟨(some 10), .pick (.t 6) (.k (.bool true)) (.t 9), none, [], false⟩,
        ⟨(some 11), .mv (.t 10), none, [], false⟩,
        ⟨(some 12), .fad 1 (.t 1), (some (11, false)), [], false⟩,
        ⟨(some 13), .ld1 (.t 12), (some (11, false)), [], false⟩,
        ⟨(some 14), .bin .lss (.t 13) (.k (.int .i64 (-2047))), (some (11, false)), [], false⟩,
        ⟨(some 15), .pick (.t 11) (.k (.bool true)) (.t 14), none, [], false⟩,
        ⟨(some 16), .mv (.t 15), none, [], false⟩,
        ⟨(some 17), .fad 1 (.t 1), (some (16, false)), [], false⟩,
        ⟨(some 18), .ld1 (.t 17), (some (16, false)), [], false⟩,
        ⟨(some 19), .bin .gtr (.t 18) (.k (.int .i64 2048)), (some (16, false)), [], false⟩,
        ⟨(some 20), .pick (.t 16) (.k (.bool true)) (.t 19), none, [], false⟩,
        ⟨(some 21), .mv (.t 20), none, [], false⟩,
        ⟨(some 22), .fad 2 (.t 1), (some (21, false)), [], false⟩,
        ⟨(some 23), .ld1 (.t 22), (some (21, false)), [], false⟩,
        ⟨(some 24), .bin .lss (.t 23) (.k (.int .i64 (-1000))), (some (21, false)), [], false⟩,
        ⟨(some 25), .pick (.t 21) (.k (.bool true)) (.t 24), none, [], false⟩,
        ⟨(some 26), .mv (.t 25), none, [], false⟩,
        ⟨(some 27), .fad 2 (.t 1), (some (26, false)), [], false⟩,
        ⟨(some 28), .ld1 (.t 27), (some (26, false)), [], false⟩,
        ⟨(some 29), .bin .gtr (.t 28) (.k (.int .i64 1000)), (some (26, false)), [], false⟩,
        ⟨(some 30), .pick (.t 26) (.k (.bool true)) (.t 29), none, [], false⟩])
      (.cond (.t 30) (.seq (.reg [
          ⟨(some 2), .mv (.k (.int .i64 4)), none, [], false⟩])
        (.ret))
       (.skip)))
     (.seq (.reg [
        ⟨(some 2), .mv (.k (.int .i64 0)), none, [], false⟩])
      (.ret)))
/-- skyway/bias.Estimate -/
def c33 : CF where
  np := 2
  nt := 112
  res := [.cn 3 4, .t 5]
  code := .seq (.reg [
      ⟨(some 4), .new [.int .i64 0, .int .i64 0, .int .i64 0], none, [], false⟩,
      ⟨(some 5), .mv (.k (.int .i64 0)), none, [], false⟩])
    (.seq (.seq (.reg [
        ⟨(some 18), .mv (.t 0), none, [], false⟩,
        ⟨(some 19), .lenv false (.t 18), none, [], false⟩,
        ⟨(some 20), .bin .gtr (.t 19) (.k (.int .i64 256)), none, [], false⟩,
        ⟨(some 21), .mv (.t 20), none, [], false⟩,
        ⟨(some 22), .mv (.t 1), (some (21, false)), [], false⟩,
        ⟨(some 23), .lenv false (.t 22), (some (21, false)), [], false⟩,
        ⟨(some 24), .bin .gtr (.t 23) (.k (.int .i64 256)), (some (21, false)), [], false⟩,
        ⟨(some 25), .pick (.t 21) (.k (.bool true)) (.t 24), none, [], false⟩])
      (.cond (.t 25) (.seq (.reg [
          ⟨(some 26), .mk [.int .i64 0, .int .i64 0, .int .i64 0] [], none, [], false⟩,
          ⟨none, .st 3 (.t 4) (.t 26), none, [], false⟩,
          ⟨(some 5), .mv (.k (.int .i64 2)), none, [], false⟩])
        (.ret))
       (.skip)))
     (.seq (.seq (.reg [
         ⟨(some 27), .mv (.t 0), none, [], false⟩,
         ⟨(some 28), .mv (.t 1), none, [], false⟩,
         ⟨(some 29), .mk [.sl true 0 0 0 0 0, .sl true 0 0 0 0 0] [(0, 1, (.t 27)), (1, 1, (.t 28))], none, [], false⟩,
         ⟨(some 30), .mv (.k (.int .i64 0)), none, [], false⟩])
       (.blk 0 (.loop (.seq (.reg [
            ⟨(some 31), .bin .lss (.t 30) (.k (.int .i64 2)), none, [], false⟩])
          (.seq (.cond (.t 31) (.skip)
            (.exit 0))
           (.seq (.blk 1 (.seq (.reg [
                ⟨(some 32), .ixa 2 1 false (.t 29) (.t 30), none, [], false⟩,
                ⟨(some 7), .mv (.t 32), none, [], false⟩])
              (.seq (.reg [
                 ⟨(some 33), .mv (.t 7), none, [], false⟩,
                 ⟨(some 34), .lenv false (.t 33), none, [], false⟩,
                 ⟨(some 35), .mv (.k (.int .i64 0)), none, [], false⟩])
               (.blk 2 (.loop (.seq (.reg [
                    ⟨(some 36), .bin .lss (.t 35) (.t 34), none, [], false⟩])
                  (.seq (.cond (.t 36) (.skip)
                    (.exit 2))
                   (.seq (.blk 3 (.seq (.reg [
                        ⟨(some 37), .iad 6 (.t 33) (.t 35), none, [], false⟩,
                        ⟨(some 38), .ldn 6 (.t 37), none, [], false⟩,
                        ⟨(some 9), .new [.int .i64 0, .int .i64 0, .int .i64 0, .int .i64 0, .int .i64 0, .int .i64 0], none, [], false⟩,
                        ⟨none, .st 6 (.t 9) (.t 38), none, [], false⟩])
                      (.seq (.reg [
                         ⟨(some 39), .ldn 6 (.t 9), none, [], false⟩,
                         ⟨(some 40), .call (.k (.fn 35 [])) [(.t 39)], none, [], false⟩,
                         ⟨(some 10), .mv (.t 40), none, [], false⟩])
                       (.seq (.reg [
                          ⟨(some 41), .mv (.t 10), none, [], false⟩,
                          ⟨(some 42), .bin .neq (.t 41) (.k (.int .i64 0)), none, [], false⟩])
                        (.cond (.t 42) (.seq (.reg [
                            ⟨(some 43), .mk [.int .i64 0, .int .i64 0, .int .i64 0] [], none, [], false⟩,
                            ⟨(some 44), .mv (.t 10), none, [], false⟩,
                            ⟨none, .st 3 (.t 4) (.t 43), none, [], false⟩,
                            ⟨(some 5), .mv (.t 44), none, [], false⟩])
                          (.ret))
                         (.skip))))))
                    (.reg [
                      ⟨(some 45), .bin .add (.t 35) (.k (.int .i64 1)), none, [], false⟩,
                      ⟨(some 35), .mv (.t 45), none, [], false⟩])))))))))
            (.reg [
              ⟨(some 46), .bin .add (.t 30) (.k (.int .i64 1)), none, [], false⟩,
              ⟨(some 30), .mv (.t 46), none, [], false⟩])))))))
      (.seq (.seq (.reg [
          ⟨(some 47), .mv (.t 0), none, [], false⟩,
          ⟨(some 48), .lenv false (.t 47), none, [], false⟩,
          ⟨(some 49), .mv (.t 1), none, [], false⟩,
          ⟨(some 50), .lenv false (.t 49), none, [], false⟩,
          ⟨(some 51), .bin .neq (.t 48) (.t 50), none, [], false⟩])
        (.cond (.t 51) (.seq (.reg [
            ⟨(some 52), .mk [.int .i64 0, .int .i64 0, .int .i64 0] [], none, [], false⟩,
            ⟨none, .st 3 (.t 4) (.t 52), none, [], false⟩,
            ⟨(some 5), .mv (.k (.int .i64 3)), none, [], false⟩])
          (.ret))
         (.skip)))
       (.seq (.seq (.reg [
           ⟨(some 53), .mv (.t 1), none, [], false⟩,
           ⟨(some 54), .lenv false (.t 53), none, [], false⟩,
           ⟨(some 55), .bin .eql (.t 54) (.k (.int .i64 0)), none, [], false⟩])
         (.cond (.t 55) (.seq (.reg [
             ⟨(some 56), .mk [.int .i64 0, .int .i64 0, .int .i64 0] [], none, [], false⟩,
             ⟨none, .st 3 (.t 4) (.t 56), none, [], false⟩,
             ⟨(some 5), .mv (.k (.int .i64 8)), none, [], false⟩])
           (.ret))
          (.skip)))
        (.seq (.reg [
           ⟨(some 11), .mv (.k (.sl true 0 0 0 0 0)), none, [], false⟩,
           ⟨(some 12), .mv (.k (.sl true 0 0 0 0 0)), none, [], false⟩,
           ⟨(some 13), .mv (.k (.sl true 0 0 0 0 0)), none, [], false⟩])
         (.seq (.seq (.reg [
             ⟨(some 57), .mv (.t 1), none, [], false⟩,
             ⟨(some 58), .lenv false (.t 57), none, [], false⟩,
             ⟨(some 59), .mv (.k (.int .i64 0)), none, [], false⟩])
           (.blk 4 (.loop (.seq (.reg [
                ⟨(some 60), .bin .lss (.t 59) (.t 58), none, [], false⟩])
              (.seq (.cond (.t 60) (.skip)
                (.exit 4))
               (.seq (.blk 5 (.seq (.reg [
                    ⟨(some 61), .mv (.t 59), none, [], false⟩,
                    ⟨(some 62), .iad 6 (.t 57) (.t 59), none, [], false⟩,
                    ⟨(some 63), .ldn 6 (.t 62), none, [], false⟩,
                    ⟨(some 15), .new [.int .i64 0, .int .i64 0, .int .i64 0, .int .i64 0, .int .i64 0, .int .i64 0], none, [], false⟩,
                    ⟨(some 14), .mv (.t 61), none, [], false⟩,
                    ⟨none, .st 6 (.t 15) (.t 63), none, [], false⟩])
                  (.seq (.reg [
                     ⟨(some 64), .mv (.t 11), none, [], false⟩,
                     ⟨(some 65), .fad 2 (.t 15), none, [], false⟩,
                     ⟨(some 66), .ld1 (.t 65), none, [], false⟩,
                     ⟨(some 67), .mv (.t 0), none, [], false⟩,
                     ⟨(some 68), .mv (.t 14), none, [], false⟩,
                     ⟨(some 69), .iad 6 (.t 67) (.t 68), none, [], false⟩,
                     ⟨(some 70), .fad 2 (.t 69), none, [], false⟩,
                     ⟨(some 71), .ld1 (.t 70), none, [], false⟩,
                     ⟨(some 72), .bin .sub (.t 66) (.t 71), none, [], false⟩,
                     ⟨(some 73), .mks [.int .i64 0] 1 1 [(0, 1, (.t 72))], none, [], false⟩,
                     ⟨(some 74), .app 1 8 (.t 64) (.t 73), none, [], false⟩,
                     ⟨(some 11), .mv (.t 74), none, [], false⟩])
                   (.seq (.reg [
                      ⟨(some 75), .mv (.t 12), none, [], false⟩,
                      ⟨(some 76), .mv (.t 0), none, [], false⟩,
                      ⟨(some 77), .mv (.t 14), none, [], false⟩,
                      ⟨(some 78), .iad 6 (.t 76) (.t 77), none, [], false⟩,
                      ⟨(some 79), .fad 3 (.t 78), none, [], false⟩,
                      ⟨(some 80), .ld1 (.t 79), none, [], false⟩,
                      ⟨(some 81), .fad 3 (.t 15), none, [], false⟩,
                      ⟨(some 82), .ld1 (.t 81), none, [], false⟩,
                      ⟨(some 83), .call (.k (.fn 69 [])) [(.t 80), (.t 82)], none, [], false⟩,
                      ⟨(some 84), .mks [.int .i64 0] 1 1 [(0, 1, (.t 83))], none, [], false⟩,
                      ⟨(some 85), .app 1 8 (.t 75) (.t 84), none, [], false⟩,
                      ⟨(some 12), .mv (.t 85), none, [], false⟩])
                    (.reg [
                      ⟨(some 86), .mv (.t 13), none, [], false⟩,
                      ⟨(some 87), .fad 1 (.t 15), none, [], false⟩,
                      ⟨(some 88), .ld1 (.t 87), none, [], false⟩,
                      ⟨(some 89), .mv (.t 0), none, [], false⟩,
                      ⟨(some 90), .mv (.t 14), none, [], false⟩,
                      ⟨(some 91), .iad 6 (.t 89) (.t 90), none, [], false⟩,
                      ⟨(some 92), .fad 1 (.t 91), none, [], false⟩,
                      ⟨(some 93), .ld1 (.t 92), none, [], false⟩,
                      ⟨(some 94), .bin .sub (.t 88) (.t 93), none, [], false⟩,
                      ⟨(some 95), .mks [.int .i64 0] 1 1 [(0, 1, (.t 94))], none, [], false⟩,
                      ⟨(some 96), .app 1 8 (.t 86) (.t 95), none, [], false⟩,
                      ⟨(some 13), .mv (.t 96), none, [], false⟩])))))
                (.reg [
                  ⟨(some 97), .bin .add (.t 59) (.k (.int .i64 1)), none, [], false⟩,
                  ⟨(some 59), .mv (.t 97), none, [], false⟩])))))))
          (.seq (.reg [
             ⟨(some 98), .mv (.t 11), none, [], false⟩,
             ⟨(some 99), .call (.k (.fn 70 [])) [(.t 98)], none, [], false⟩,
             ⟨(some 100), .mv (.t 12), none, [], false⟩,
             ⟨(some 101), .call (.k (.fn 70 [])) [(.t 100)], none, [], false⟩,
             ⟨(some 102), .mv (.t 13), none, [], false⟩,
             ⟨(some 103), .call (.k (.fn 70 [])) [(.t 102)], none, [], false⟩,
             ⟨(some 104), .mk [.int .i64 0, .int .i64 0, .int .i64 0] [(0, 1, (.t 99)), (1, 1, (.t 101)), (2, 1, (.t 103))], none, [], false⟩,
             ⟨(some 16), .new [.int .i64 0, .int .i64 0, .int .i64 0], none, [], false⟩,
             ⟨none, .st 3 (.t 16) (.t 104), none, [], false⟩])
           (.seq (.seq (.reg [
               ⟨(some 105), .ldn 3 (.t 16), none, [], false⟩,
               ⟨(some 106), .call (.k (.fn 71 [])) [(.t 105)], none, [], false⟩,
               ⟨(some 17), .mv (.t 106), none, [], false⟩])
             (.seq (.reg [
                ⟨(some 107), .mv (.t 17), none, [], false⟩,
                ⟨(some 108), .bin .neq (.t 107) (.k (.int .i64 0)), none, [], false⟩])
              (.cond (.t 108) (.seq (.reg [
                  ⟨(some 109), .mk [.int .i64 0, .int .i64 0, .int .i64 0] [], none, [], false⟩,
                  ⟨(some 110), .mv (.t 17), none, [], false⟩,
                  ⟨none, .st 3 (.t 4) (.t 109), none, [], false⟩,
                  ⟨(some 5), .mv (.t 110), none, [], false⟩])
                (.ret))
               (.skip))))
            (.seq (.reg [
               ⟨(some 111), .ldn 3 (.t 16), none, [], false⟩,
               ⟨none, .st 3 (.t 4) (.t 111), none, [], false⟩,
               ⟨(some 5), .mv (.k (.int .i64 0)), none, [], false⟩])
             (.ret))))))))))
/-- skyway/bias.moved -/
def c72 : CF where
  np := 3
  nt := 52
  res := [.cn 6 6, .t 7]
  code := .seq (.reg [
      ⟨(some 3), .box (.t 0), none, [], false⟩,
      ⟨(some 4), .box (.t 1), none, [], false⟩,
      ⟨(some 6), .new [.int .i64 0, .int .i64 0, .int .i64 0, .int .i64 0, .int .i64 0, .int .i64 0], none, [], false⟩,
      ⟨(some 7), .mv (.k (.int .i64 0)), none, [], false⟩])
    (.seq (.seq (.reg [
        ⟨(some 10), .ldn 3 (.t 4), none, [], false⟩,
        ⟨(some 11), .call (.k (.fn 71 [])) [(.t 10)], none, [], false⟩,
        ⟨(some 8), .mv (.t 11), none, [], false⟩])
      (.seq (.reg [
         ⟨(some 12), .mv (.t 8), none, [], false⟩,
         ⟨(some 13), .bin .neq (.t 12) (.k (.int .i64 0)), none, [], false⟩])
       (.cond (.t 13) (.seq (.reg [
           ⟨(some 14), .mk [.int .i64 0, .int .i64 0, .int .i64 0, .int .i64 0, .int .i64 0, .int .i64 0] [], none, [], false⟩,
           ⟨(some 15), .mv (.t 8), none, [], false⟩,
           ⟨none, .st 6 (.t 6) (.t 14), none, [], false⟩,
           ⟨(some 7), .mv (.t 15), none, [], false⟩])
         (.ret))
        (.skip))))
     (.seq (.seq (.reg [
         ⟨(some 16), .ldn 6 (.t 3), none, [], false⟩,
         ⟨(some 17), .call (.k (.fn 35 [])) [(.t 16)], none, [], false⟩,
         ⟨(some 9), .mv (.t 17), none, [], false⟩])
       (.seq (.reg [
          ⟨(some 18), .mv (.t 9), none, [], false⟩,
          ⟨(some 19), .bin .neq (.t 18) (.k (.int .i64 0)), none, [], false⟩])
        (.cond (.t 19) (.seq (.reg [
            ⟨(some 20), .mk [.int .i64 0, .int .i64 0, .int .i64 0, .int .i64 0, .int .i64 0, .int .i64 0] [], none, [], false⟩,
            ⟨(some 21), .mv (.t 9), none, [], false⟩,
            ⟨none, .st 6 (.t 6) (.t 20), none, [], false⟩,
            ⟨(some 7), .mv (.t 21), none, [], false⟩])
          (.ret))
         (.skip))))
      (.seq (.reg [
         ⟨(some 22), .fad 2 (.t 3), none, [], false⟩,
         ⟨(some 23), .ld1 (.t 22), none, [], false⟩,
         ⟨(some 24), .mv (.t 2), none, [], false⟩,
         ⟨(some 25), .fad 0 (.t 4), none, [], false⟩,
         ⟨(some 26), .ld1 (.t 25), none, [], false⟩,
         ⟨(some 27), .bin .mul (.t 24) (.t 26), none, [], false⟩,
         ⟨(some 28), .bin .add (.t 23) (.t 27), none, [], false⟩,
         ⟨(some 29), .fad 2 (.t 3), none, [], false⟩,
         ⟨none, .st 1 (.t 29) (.t 28), none, [], false⟩])
       (.seq (.reg [
          ⟨(some 30), .fad 1 (.t 3), none, [], false⟩,
          ⟨(some 31), .ld1 (.t 30), none, [], false⟩,
          ⟨(some 32), .mv (.t 2), none, [], false⟩,
          ⟨(some 33), .fad 2 (.t 4), none, [], false⟩,
          ⟨(some 34), .ld1 (.t 33), none, [], false⟩,
          ⟨(some 35), .bin .mul (.t 32) (.t 34), none, [], false⟩,
          ⟨(some 36), .bin .add (.t 31) (.t 35), none, [], false⟩,
          ⟨(some 37), .fad 1 (.t 3), none, [], false⟩,
          ⟨none, .st 1 (.t 37) (.t 36), none, [], false⟩])
        (.seq (.reg [
           ⟨(some 38), .fad 3 (.t 3), none, [], false⟩,
           ⟨(some 39), .ld1 (.t 38), none, [], false⟩,
           ⟨(some 40), .mv (.t 2), none, [], false⟩,
           ⟨(some 41), .fad 1 (.t 4), none, [], false⟩,
           ⟨(some 42), .ld1 (.t 41), none, [], false⟩,
           ⟨(some 43), .bin .mul (.t 40) (.t 42), none, [], false⟩,
           ⟨(some 44), .bin .add (.t 39) (.t 43), none, [], false⟩,
           ⟨(some 45), .call (.k (.fn 105 [])) [(.t 44)], none, [], false⟩,
           ⟨(some 46), .fad 3 (.t 3), none, [], false⟩,
           ⟨none, .st 1 (.t 46) (.t 45), none, [], false⟩])
         (.seq (.seq (.reg [
             ⟨(some 47), .ldn 6 (.t 3), none, [], false⟩,
             ⟨(some 48), .call (.k (.fn 35 [])) [(.t 47)], none, [], false⟩,
             ⟨(some 49), .bin .neq (.t 48) (.k (.int .i64 0)), none, [], false⟩])
           (.cond (.t 49) (.seq (.reg [
               ⟨(some 50), .mk [.int .i64 0, .int .i64 0, .int .i64 0, .int .i64 0, .int .i64 0, .int .i64 0] [], none, [], false⟩,
               ⟨none, .st 6 (.t 6) (.t 50), none, [], false⟩,
               ⟨(some 7), .mv (.k (.int .i64 8)), none, [], false⟩])
             (.ret))
            (.skip)))
          (.seq (.reg [
             ⟨(some 51), .ldn 6 (.t 3), none, [], false⟩,
             ⟨none, .st 6 (.t 6) (.t 51), none, [], false⟩,
             ⟨(some 7), .mv (.k (.int .i64 0)), none, [], false⟩])
           (.ret))))))))
/-- skyway/bias.Apply -/
def c34 : CF where
  np := 2
  nt := 11
  res := [.cn 6 4, .t 5]
  code := .seq (.reg [
      ⟨(some 2), .box (.t 0), none, [], false⟩,
      ⟨(some 3), .box (.t 1), none, [], false⟩,
      ⟨(some 4), .new [.int .i64 0, .int .i64 0, .int .i64 0, .int .i64 0, .int .i64 0, .int .i64 0], none, [], false⟩,
      ⟨(some 5), .mv (.k (.int .i64 0)), none, [], false⟩])
    (.seq (.reg [
       ⟨(some 6), .ldn 6 (.t 2), none, [], false⟩,
       ⟨(some 7), .ldn 3 (.t 3), none, [], false⟩,
       ⟨(some 8), .call (.k (.fn 72 [])) [(.t 6), (.t 7), (.k (.int .i64 1))], none, [], false⟩,
       ⟨(some 9), .ext (.t 8) 0, none, [], false⟩,
       ⟨(some 10), .ext (.t 8) 1, none, [], false⟩,
       ⟨none, .st 6 (.t 4) (.t 9), none, [], false⟩,
       ⟨(some 5), .mv (.t 10), none, [], false⟩])
     (.ret))
/-- skyway/skywaykeep2.BiasExact -/
def c9 : CF where
  np := 3
  nt := 105
  res := [.t 6]
  code := .seq (.reg [
      ⟨(some 4), .box (.t 1), none, [], false⟩,
      ⟨(some 6), .mv (.k (.bool false)), none, [], false⟩])
    (.seq (.seq (.reg [
        ⟨(some 18), .mk [.int .i64 0, .int .i64 0, .int .i64 0, .int .i64 0, .int .i64 0, .int .i64 0] [(2, 1, (.k (.int .i64 5)))], none, [], false⟩,
        ⟨(some 19), .mks [.int .i64 0, .int .i64 0, .int .i64 0, .int .i64 0, .int .i64 0, .int .i64 0] 6 1 [(0, 6, (.t 18))], none, [], false⟩,
        ⟨(some 20), .mk [.int .i64 0, .int .i64 0, .int .i64 0, .int .i64 0, .int .i64 0, .int .i64 0] [(2, 1, (.k (.int .i64 8)))], none, [], false⟩,
        ⟨(some 21), .mks [.int .i64 0, .int .i64 0, .int .i64 0, .int .i64 0, .int .i64 0, .int .i64 0] 6 1 [(0, 6, (.t 20))], none, [], false⟩,
        ⟨(some 22), .call (.k (.fn 33 [])) [(.t 19), (.t 21)], none, [], false⟩,
        ⟨(some 17), .mv (.t 22), none, [], false⟩,
        ⟨(some 23), .ext (.t 17) 0, none, [], false⟩,
        ⟨(some 24), .ext (.t 17) 1, none, [], false⟩,
        ⟨(some 7), .new [.int .i64 0, .int .i64 0, .int .i64 0], none, [], false⟩,
        ⟨none, .st 3 (.t 7) (.t 23), none, [], false⟩,
        ⟨(some 8), .mv (.t 24), none, [], false⟩])
      (.seq (.reg [
         ⟨(some 25), .mv (.t 8), none, [], false⟩,
         ⟨(some 26), .bin .neq (.t 25) (.k (.int .i64 0)), none, [], false⟩,
         ⟨(some 27), .mv (.t 26), none, [], false⟩,
         ⟨(some 28), .fad 0 (.t 7), (some (27, false)), [], false⟩,
         ⟨(some 29), .ld1 (.t 28), (some (27, false)), [], false⟩,
         ⟨(some 30), .bin .neq (.t 29) (.k (.int .i64 3)), (some (27, false)), [], false⟩,
         ⟨(some 31), .pick (.t 27) (.k (.bool true)) (.t 30), none, [], false⟩])
       (.cond (.t 31) (.seq (.reg [
           ⟨(some 6), .mv (.k (.bool false)), none, [], false⟩])
         (.ret))
        (.skip))))
     (.seq (.seq (.reg [
         ⟨(some 32), .mv (.t 0), none, [], false⟩,
         ⟨(some 33), .lenv false (.t 32), none, [], false⟩,
         ⟨(some 34), .bin .gtr (.t 33) (.k (.int .i64 30)), none, [], false⟩])
       (.cond (.t 34) (.reg [
          ⟨(some 35), .mv (.t 0), none, [], false⟩,
          ⟨(some 36), .slc 6 (.t 35) none (some (.k (.int .i64 30))), none, [], false⟩,
          ⟨(some 0), .mv (.t 36), none, [], false⟩])
        (.skip)))
      (.seq (.reg [
         ⟨(some 9), .mv (.k (.sl true 0 0 0 0 0)), none, [], false⟩])
       (.seq (.reg [
          ⟨(some 10), .mv (.k (.int .i64 0)), none, [], false⟩])
        (.seq (.seq (.reg [
            ⟨(some 37), .mv (.t 0), none, [], false⟩,
            ⟨(some 38), .lenv false (.t 37), none, [], false⟩,
            ⟨(some 39), .mv (.k (.int .i64 0)), none, [], false⟩])
          (.blk 0 (.loop (.seq (.reg [
               ⟨(some 40), .bin .lss (.t 39) (.t 38), none, [], false⟩])
             (.seq (.cond (.t 40) (.skip)
               (.exit 0))
              (.seq (.blk 1 (.seq (.reg [
                   ⟨(some 41), .mv (.t 39), none, [], false⟩,
                   ⟨(some 42), .iad 6 (.t 37) (.t 39), none, [], false⟩,
                   ⟨(some 43), .ldn 6 (.t 42), none, [], false⟩,
                   ⟨(some 12), .new [.int .i64 0, .int .i64 0, .int .i64 0, .int .i64 0, .int .i64 0, .int .i64 0], none, [], false⟩,
                   ⟨(some 11), .mv (.t 41), none, [], false⟩,
                   ⟨none, .st 6 (.t 12) (.t 43), none, [], false⟩])
                 (.seq (.reg [
                    ⟨(some 45), .ldn 6 (.t 12), none, [], false⟩,
                    ⟨(some 46), .ldn 3 (.t 4), none, [], false⟩,
                    ⟨(some 47), .call (.k (.fn 34 [])) [(.t 45), (.t 46)], none, [], false⟩,
                    ⟨(some 44), .mv (.t 47), none, [], false⟩,
                    ⟨(some 48), .ext (.t 44) 0, none, [], false⟩,
                    ⟨(some 49), .ext (.t 44) 1, none, [], false⟩,
                    ⟨(some 13), .new [.int .i64 0, .int .i64 0, .int .i64 0, .int .i64 0, .int .i64 0, .int .i64 0], none, [], false⟩,
                    ⟨none, .st 6 (.t 13) (.t 48), none, [], false⟩,
                    ⟨(some 14), .mv (.t 49), none, [], false⟩])
                  (.seq (.seq (.reg [
                      ⟨(some 50), .mv (.t 14), none, [], false⟩,
                      ⟨(some 51), .bin .neq (.t 50) (.k (.int .i64 0)), none, [], false⟩])
                    (.cond (.t 51) (.seq (.reg [
                        ⟨(some 6), .mv (.k (.bool true)), none, [], false⟩])
                      (.ret))
                     (.skip)))
                   (.seq (.seq (.reg [
                       ⟨(some 52), .mv (.t 11), none, [], false⟩,
                       ⟨(some 53), .mv (.t 2), none, [], false⟩,
                       ⟨(some 54), .lenv false (.t 53), none, [], false⟩,
                       ⟨(some 55), .bin .lss (.t 52) (.t 54), none, [], false⟩,
                       ⟨(some 56), .mv (.t 55), none, [], false⟩,
                       ⟨(some 57), .mv (.t 10), (some (56, true)), [], false⟩,
                       ⟨(some 58), .bin .add (.t 57) (.k (.int .i64 1)), (some (56, true)), [], false⟩,
                       ⟨(some 59), .bin .mul (.k (.int .i64 2)) (.t 58), (some (56, true)), [], false⟩,
                       ⟨(some 60), .mv (.t 0), (some (56, true)), [], false⟩,
                       ⟨(some 61), .lenv false (.t 60), (some (56, true)), [], false⟩,
                       ⟨(some 62), .bin .lss (.t 59) (.t 61), (some (56, true)), [], false⟩,
                       ⟨(some 63), .pick (.t 56) (.t 62) (.k (.bool false)), none, [], false⟩,
                       ⟨(some 64), .mv (.t 63), none, [], false⟩,
                       ⟨(some 65), .mv (.t 2), (some (64, true)), [], false⟩,
                       ⟨(some 66), .mv (.t 11), (some (64, true)), [], false⟩,
                       ⟨(some 67), .iad 6 (.t 65) (.t 66), (some (64, true)), [], false⟩,
                       ⟨(some 68), .ldn 6 (.t 67), (some (64, true)), [], false⟩,
                       ⟨(some 69), .call (.k (.fn 35 [])) [(.t 68)], (some (64, true)), [], false⟩,
                       ⟨(some 70), .bin .eql (.t 69) (.k (.int .i64 0)), (some (64, true)), [], false⟩,
                       ⟨(some 71), .pick (.t 64) (.t 70) (.k (.bool false)), none, [], false⟩])
                     (.cond (.t 71) (.reg [
                        ⟨(some 72), .mv (.t 2), none, [], false⟩,
                        ⟨(some 73), .mv (.t 11), none, [], false⟩,
                        ⟨(some 74), .iad 6 (.t 72) (.t 73), none, [], false⟩,
                        ⟨(some 75), .ldn 6 (.t 74), none, [], false⟩,
                        ⟨(some 76), .mv (.t 10), none, [], false⟩,
                        ⟨(some 77), .bin .add (.t 76) (.k (.int .i64 1)), none, [], false⟩,
                        ⟨none, .st 6 (.t 13) (.t 75), none, [], false⟩,
                        ⟨(some 10), .mv (.t 77), none, [], false⟩])
                      (.skip)))
                    (.reg [
                      ⟨(some 78), .mv (.t 9), none, [], false⟩,
                      ⟨(some 79), .ldn 6 (.t 13), none, [], false⟩,
                      ⟨(some 80), .mks [.int .i64 0, .int .i64 0, .int .i64 0, .int .i64 0, .int .i64 0, .int .i64 0] 6 1 [(0, 6, (.t 79))], none, [], false⟩,
                      ⟨(some 81), .app 6 48 (.t 78) (.t 80), none, [], false⟩,
                      ⟨(some 9), .mv (.t 81), none, [], false⟩]))))))
               (.reg [
                 ⟨(some 82), .bin .add (.t 39) (.k (.int .i64 1)), none, [], false⟩,
                 ⟨(some 39), .mv (.t 82), none, [], false⟩])))))))
         (.seq (.reg [
            ⟨(some 84), .mv (.t 0), none, [], false⟩,
            ⟨(some 85), .mv (.t 9), none, [], false⟩,
            ⟨(some 86), .call (.k (.fn 33 [])) [(.t 84), (.t 85)], none, [], false⟩,
            ⟨(some 83), .mv (.t 86), none, [], false⟩,
            ⟨(some 87), .ext (.t 83) 0, none, [], false⟩,
            ⟨(some 88), .ext (.t 83) 1, none, [], false⟩,
            ⟨(some 15), .new [.int .i64 0, .int .i64 0, .int .i64 0], none, [], false⟩,
            ⟨none, .st 3 (.t 15) (.t 87), none, [], false⟩,
            ⟨(some 16), .mv (.t 88), none, [], false⟩])
          (.seq (.reg [
             ⟨(some 89), .mv (.t 0), none, [], false⟩,
             ⟨(some 90), .lenv false (.t 89), none, [], false⟩,
             ⟨(some 91), .bin .eql (.t 90) (.k (.int .i64 0)), none, [], false⟩,
             ⟨(some 92), .mv (.t 91), none, [], false⟩,
             ⟨(some 93), .mv (.t 16), (some (92, true)), [], false⟩,
             ⟨(some 94), .bin .eql (.t 93) (.k (.int .i64 8)), (some (92, true)), [], false⟩,
             ⟨(some 95), .pick (.t 92) (.t 94) (.k (.bool false)), none, [], false⟩,
             ⟨(some 96), .mv (.t 95), none, [], false⟩,
             ⟨(some 97), .mv (.t 16), (some (96, false)), [], false⟩,
             ⟨(some 98), .bin .eql (.t 97) (.k (.int .i64 0)), (some (96, false)), [], false⟩,
             ⟨(some 99), .mv (.t 98), (some (96, false)), [], false⟩,
             ⟨(some 100), .ldn 3 (.t 15), (some (99, true)), [], false⟩,
             ⟨(some 101), .ldn 3 (.t 4), (some (99, true)), [], false⟩,
             ⟨(some 102), .eqs false (some [.i, .i, .i]) (.t 100) (.t 101), (some (99, true)), [], false⟩,
             ⟨(some 103), .pick (.t 99) (.t 102) (.k (.bool false)), (some (96, false)), [], false⟩,
             ⟨(some 104), .pick (.t 96) (.k (.bool true)) (.t 103), none, [], false⟩,
             ⟨(some 6), .mv (.t 104), none, [], false⟩])
           (.ret))))))))
theorem ok35 : cFunc Try.prog Try.f35 = some c35 := by kernel_rfl
theorem ok105 : cFunc Try.prog Try.f105 = some c105 := by kernel_rfl
theorem ok69 : cFunc Try.prog Try.f69 = some c69 := by kernel_rfl
theorem ok132 : cFunc Try.prog Try.f132 = some c132 := by kernel_rfl
theorem ok118 : cFunc Try.prog Try.f118 = some c118 := by kernel_rfl
theorem ok109 : cFunc Try.prog Try.f109 = some c109 := by kernel_rfl
theorem ok104 : cFunc Try.prog Try.f104 = some c104 := by kernel_rfl
theorem ok68 : cFunc Try.prog Try.f68 = some c68 := by kernel_rfl
theorem ok148 : cFunc Try.prog Try.f148 = some c148 := by kernel_rfl
theorem ok167 : cFunc Try.prog Try.f167 = some c167 := by kernel_rfl
theorem ok149 : cFunc Try.prog Try.f149 = some c149 := by kernel_rfl
theorem ok157 : cFunc Try.prog Try.f157 = some c157 := by kernel_rfl
theorem ok158 : cFunc Try.prog Try.f158 = some c158 := by kernel_rfl
theorem ok150 : cFunc Try.prog Try.f150 = some c150 := by kernel_rfl
theorem ok175 : cFunc Try.prog Try.f175 = some c175 := by kernel_rfl
theorem ok169 : cFunc Try.prog Try.f169 = some c169 := by kernel_rfl
theorem ok168 : cFunc Try.prog Try.f168 = some c168 := by kernel_rfl
theorem ok151 : cFunc Try.prog Try.f151 = some c151 := by kernel_rfl
theorem ok152 : cFunc Try.prog Try.f152 = some c152 := by kernel_rfl
theorem ok153 : cFunc Try.prog Try.f153 = some c153 := by kernel_rfl
theorem ok154 : cFunc Try.prog Try.f154 = some c154 := by kernel_rfl
theorem ok155 : cFunc Try.prog Try.f155 = some c155 := by kernel_rfl
theorem ok123 : cFunc Try.prog Try.f123 = some c123 := by kernel_rfl
theorem ok106 : cFunc Try.prog Try.f106 = some c106 := by kernel_rfl
theorem ok70 : cFunc Try.prog Try.f70 = some c70 := by kernel_rfl
theorem ok71 : cFunc Try.prog Try.f71 = some c71 := by kernel_rfl
theorem ok33 : cFunc Try.prog Try.f33 = some c33 := by kernel_rfl
theorem ok72 : cFunc Try.prog Try.f72 = some c72 := by kernel_rfl
theorem ok34 : cFunc Try.prog Try.f34 = some c34 := by kernel_rfl
theorem ok9 : cFunc Try.prog Try.f9 = some c9 := by kernel_rfl
end Go.Proofs.Ytaekgifbehoipaa.CodeAll
