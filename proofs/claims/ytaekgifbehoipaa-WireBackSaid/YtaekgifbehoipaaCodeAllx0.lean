/- The code of functions of the program, for the abstract machine; each is what the function is turned into. No condition. -/
import Derived.Test.YtaekgifbehoipaaEvaO
import Derived.Test.YtaekgifbehoipaaChecked
import Derived.KernelRfl
namespace Go.Proofs.Ytaekgifbehoipaa.CodeAll
open Go Go.Proofs.Ytaekgifbehoipaa.Eva
/-- skyway/wire.checkPlot -/
def c98 : CF where
  np := 2
  nt := 57
  res := [.t 4]
  code := .seq (.reg [
      ⟨(some 2), .box (.t 0), none, [], false⟩,
      ⟨(some 3), .box (.t 1), none, [], false⟩,
      ⟨(some 4), .mv (.k (.int .i64 0)), none, [], false⟩])
    (.seq (.blk 0 (.seq (.reg [
         ⟨(some 6), .fad 0 (.t 3), none, [], false⟩,
         ⟨(some 7), .ld1 (.t 6), none, [], false⟩,
         ⟨(some 8), .fad 0 (.t 2), none, [], false⟩,
         ⟨(some 9), .ld1 (.t 8), none, [], false⟩,
         ⟨(some 10), .bin .neq (.t 7) (.t 9), none, [], false⟩,
         ⟨(some 11), .mv (.t 10), none, [], false⟩,
         ⟨(some 12), .fad 1 (.t 3), (some (11, false)), [], false⟩,
         ⟨(some 13), .ld1 (.t 12), (some (11, false)), [], false⟩,
         ⟨(some 14), .fad 1 (.t 2), (some (11, false)), [], false⟩,
         ⟨(some 15), .ld1 (.t 14), (some (11, false)), [], false⟩,
         ⟨(some 16), .bin .neq (.t 13) (.t 15), (some (11, false)), [], false⟩,
         ⟨(some 17), .pick (.t 11) (.k (.bool true)) (.t 16), none, [], false⟩,
         ⟨(some 5), .mv (.t 17), none, [], false⟩])
       (.cond (.t 5) (.seq (.reg [
           ⟨(some 4), .mv (.k (.int .i64 3)), none, [], false⟩])
         (.ret))
        (.seq (.reg [
           ⟨(some 19), .fad 2 (.t 3), none, [], false⟩,
           ⟨(some 20), .ld1 (.t 19), none, [], false⟩,
           ⟨(some 21), .bin .lss (.t 20) (.k (.int .i64 0)), none, [], false⟩,
           ⟨(some 22), .mv (.t 21), none, [], false⟩,
           ⟨(some 23), .fad 2 (.t 3), (some (22, false)), [], false⟩,
           ⟨(some 24), .ld1 (.t 23), (some (22, false)), [], false⟩,
           ⟨(some 25), .bin .gtr (.t 24) (.k (.int .i64 2000000)), (some (22, false)), [], false⟩,
           ⟨(some 26), .pick (.t 22) (.k (.bool true)) (.t 25), none, [], false⟩,
           ⟨(some 27), .mv (.t 26), none, [], false⟩,
           ⟨(some 28), .fad 3 (.t 3), (some (27, false)), [], false⟩,
           ⟨(some 29), .ld1 (.t 28), (some (27, false)), [], false⟩,
           ⟨(some 30), .bin .lss (.t 29) (.k (.int .i64 0)), (some (27, false)), [], false⟩,
           ⟨(some 31), .pick (.t 27) (.k (.bool true)) (.t 30), none, [], false⟩,
           ⟨(some 32), .mv (.t 31), none, [], false⟩,
           ⟨(some 33), .fad 3 (.t 3), (some (32, false)), [], false⟩,
           ⟨(some 34), .ld1 (.t 33), (some (32, false)), [], false⟩,
           ⟨(some 35), .bin .gtr (.t 34) (.k (.int .i64 4095)), (some (32, false)), [], false⟩,
           ⟨(some 36), .pick (.t 32) (.k (.bool true)) (.t 35), none, [], false⟩,
           ⟨(some 37), .mv (.t 36), none, [], false⟩,
           ⟨(some 38), .fad 4 (.t 3), (some (37, false)), [], false⟩,
           ⟨(some 39), .ld1 (.t 38), (some (37, false)), [], false⟩,
           ⟨(some 40), .bin .lss (.t 39) (.k (.int .i64 0)), (some (37, false)), [], false⟩,
           ⟨(some 41), .pick (.t 37) (.k (.bool true)) (.t 40), none, [], false⟩,
           ⟨(some 42), .mv (.t 41), none, [], false⟩,
           ⟨(some 43), .fad 4 (.t 3), (some (42, false)), [], false⟩,
           ⟨(some 44), .ld1 (.t 43), (some (42, false)), [], false⟩,
           ⟨(some 45), .bin .gtr (.t 44) (.k (.int .i64 60000)), (some (42, false)), [], false⟩,
           ⟨(some 46), .pick (.t 42) (.k (.bool true)) (.t 45), none, [], false⟩,
           ⟨(some 47), .mv (.t 46), none, [], false⟩,
           ⟨(some 48), .fad 5 (.t 3), (some (47, false)), [], false⟩,
           ⟨(some 49), .ld1 (.t 48), (some (47, false)), [], false⟩,
           ⟨(some 50), .bin .lss (.t 49) (.k (.int .i64 (-1))), (some (47, false)), [], false⟩,
           ⟨(some 51), .pick (.t 47) (.k (.bool true)) (.t 50), none, [], false⟩,
           ⟨(some 52), .mv (.t 51), none, [], false⟩,
           ⟨(some 53), .fad 5 (.t 3), (some (52, false)), [], false⟩,
           ⟨(some 54), .ld1 (.t 53), (some (52, false)), [], false⟩,
           ⟨(some 55), .bin .gtr (.t 54) (.k (.int .i64 4095)), (some (52, false)), [], false⟩,
           ⟨(some 56), .pick (.t 52) (.k (.bool true)) (.t 55), none, [], false⟩,
           ⟨(some 18), .mv (.t 56), none, [], false⟩])
         (.cond (.t 18) (.seq (.reg [
             ⟨(some 4), .mv (.k (.int .i64 4)), none, [], false⟩])
           (.ret))
          (.skip))))))
     (.seq (.reg [
        ⟨(some 4), .mv (.k (.int .i64 0)), none, [], false⟩])
      (.ret)))
/-- skyway/wire.Check -/
def c59 : CF where
  np := 1
  nt := 44
  res := [.t 2]
  code := .seq (.reg [
      ⟨(some 1), .box (.t 0), none, [], false⟩,
      ⟨(some 2), .mv (.k (.int .i64 0)), none, [], false⟩])
    (.seq (.blk 0 (.seq (.reg [
         ⟨(some 7), .fad 2 (.t 1), none, [], false⟩,
         ⟨(some 8), .ld1 (.t 7), none, [], false⟩,
         ⟨(some 9), .lenv false (.t 8), none, [], false⟩,
         ⟨(some 10), .bin .gtr (.t 9) (.k (.int .i64 32)), none, [], false⟩,
         ⟨(some 6), .mv (.t 10), none, [], false⟩])
       (.cond (.t 6) (.seq (.reg [
           ⟨(some 2), .mv (.k (.int .i64 2)), none, [], false⟩])
         (.ret))
        (.seq (.reg [
           ⟨(some 12), .fad 0 (.t 1), none, [], false⟩,
           ⟨(some 13), .ld1 (.t 12), none, [], false⟩,
           ⟨(some 14), .bin .lss (.t 13) (.k (.int .i64 0)), none, [], false⟩,
           ⟨(some 15), .mv (.t 14), none, [], false⟩,
           ⟨(some 16), .fad 0 (.t 1), (some (15, false)), [], false⟩,
           ⟨(some 17), .ld1 (.t 16), (some (15, false)), [], false⟩,
           ⟨(some 18), .bin .gtr (.t 17) (.k (.int .i64 255)), (some (15, false)), [], false⟩,
           ⟨(some 19), .pick (.t 15) (.k (.bool true)) (.t 18), none, [], false⟩,
           ⟨(some 20), .mv (.t 19), none, [], false⟩,
           ⟨(some 21), .fad 1 (.t 1), (some (20, false)), [], false⟩,
           ⟨(some 22), .ld1 (.t 21), (some (20, false)), [], false⟩,
           ⟨(some 23), .bin .lss (.t 22) (.k (.int .i64 0)), (some (20, false)), [], false⟩,
           ⟨(some 24), .pick (.t 20) (.k (.bool true)) (.t 23), none, [], false⟩,
           ⟨(some 25), .mv (.t 24), none, [], false⟩,
           ⟨(some 26), .fad 1 (.t 1), (some (25, false)), [], false⟩,
           ⟨(some 27), .ld1 (.t 26), (some (25, false)), [], false⟩,
           ⟨(some 28), .bin .gtr (.t 27) (.k (.int .i64 200000)), (some (25, false)), [], false⟩,
           ⟨(some 29), .pick (.t 25) (.k (.bool true)) (.t 28), none, [], false⟩,
           ⟨(some 11), .mv (.t 29), none, [], false⟩])
         (.cond (.t 11) (.seq (.reg [
             ⟨(some 2), .mv (.k (.int .i64 4)), none, [], false⟩])
           (.ret))
          (.skip))))))
     (.seq (.seq (.reg [
         ⟨(some 30), .fad 2 (.t 1), none, [], false⟩,
         ⟨(some 31), .ld1 (.t 30), none, [], false⟩,
         ⟨(some 32), .lenv false (.t 31), none, [], false⟩,
         ⟨(some 33), .mv (.k (.int .i64 0)), none, [], false⟩])
       (.blk 1 (.loop (.seq (.reg [
            ⟨(some 34), .bin .lss (.t 33) (.t 32), none, [], false⟩])
          (.seq (.cond (.t 34) (.skip)
            (.exit 1))
           (.seq (.blk 2 (.seq (.reg [
                ⟨(some 35), .iad 6 (.t 31) (.t 33), none, [], false⟩,
                ⟨(some 36), .ldn 6 (.t 35), none, [], false⟩,
                ⟨(some 4), .new [.int .i64 0, .int .i64 0, .int .i64 0, .int .i64 0, .int .i64 0, .int .i64 0], none, [], false⟩,
                ⟨none, .st 6 (.t 4) (.t 36), none, [], false⟩])
              (.seq (.reg [
                 ⟨(some 37), .ldn 3 (.t 1), none, [], false⟩,
                 ⟨(some 38), .ldn 6 (.t 4), none, [], false⟩,
                 ⟨(some 39), .call (.k (.fn 98 [])) [(.t 37), (.t 38)], none, [], false⟩,
                 ⟨(some 5), .mv (.t 39), none, [], false⟩])
               (.seq (.reg [
                  ⟨(some 40), .mv (.t 5), none, [], false⟩,
                  ⟨(some 41), .bin .neq (.t 40) (.k (.int .i64 0)), none, [], false⟩])
                (.cond (.t 41) (.seq (.reg [
                    ⟨(some 42), .mv (.t 5), none, [], false⟩,
                    ⟨(some 2), .mv (.t 42), none, [], false⟩])
                  (.ret))
                 (.skip))))))
            (.reg [
              ⟨(some 43), .bin .add (.t 33) (.k (.int .i64 1)), none, [], false⟩,
              ⟨(some 33), .mv (.t 43), none, [], false⟩])))))))
      (.seq (.reg [
         ⟨(some 2), .mv (.k (.int .i64 0)), none, [], false⟩])
       (.ret))))
/-- skyway/wire.put -/
def c60 : CF where
  np := 3
  nt := 23
  res := [.t 6]
  code := .seq (.reg [
      ⟨(some 6), .mv (.k (.sl true 0 0 0 0 0)), none, [], false⟩])
    (.seq (.seq (.reg [
        ⟨(some 8), .mv (.t 2), none, [], false⟩,
        ⟨(some 9), .bin .sub (.t 8) (.k (.int .i64 1)), none, [], false⟩,
        ⟨(some 7), .mv (.t 9), none, [], false⟩])
      (.blk 0 (.loop (.seq (.seq (.reg [
            ⟨(some 10), .mv (.t 7), none, [], false⟩,
            ⟨(some 11), .bin .geq (.t 10) (.k (.int .i64 0)), none, [], false⟩])
          (.cond (.t 11) (.skip)
           (.exit 0)))
         (.seq (.blk 1 (.reg [
             ⟨(some 14), .mv (.t 0), none, [], false⟩,
             ⟨(some 15), .mv (.t 1), none, [], false⟩,
             ⟨(some 16), .mv (.t 7), none, [], false⟩,
             ⟨(some 17), .bin .mul (.k (.int .i64 8)) (.t 16), none, [], false⟩,
             ⟨(some 18), .bin .shr (.t 15) (.t 17), none, [], false⟩,
             ⟨(some 19), .cvi .u8 (.t 18), none, [], false⟩,
             ⟨(some 20), .mks [.int .u8 0] 1 1 [(0, 1, (.t 19))], none, [], false⟩,
             ⟨(some 21), .app 1 1 (.t 14) (.t 20), none, [], false⟩,
             ⟨(some 0), .mv (.t 21), none, [], false⟩]))
          (.reg [
            ⟨(some 12), .mv (.t 7), none, [], false⟩,
            ⟨(some 13), .bin .sub (.t 12) (.k (.int .i64 1)), none, [], false⟩,
            ⟨(some 7), .mv (.t 13), none, [], false⟩]))))))
     (.seq (.reg [
        ⟨(some 22), .mv (.t 0), none, [], false⟩,
        ⟨(some 6), .mv (.t 22), none, [], false⟩])
      (.ret)))
/-- math.archLdexp -/
def c119 : CF where
  np := 2
  nt := 6
  res := [.t 4]
  code := .seq (.reg [
      ⟨(some 4), .mv (.k (.flt .f64 0)), none, [], false⟩])
    (.reg [
      ⟨(some 5), .bad, none, [], false⟩,
      ⟨none, .bad, none, [], false⟩])
/-- math.Abs -/
def c166 : CF where
  np := 1
  nt := 7
  res := [.t 2]
  code := .seq (.reg [
      ⟨(some 2), .mv (.k (.flt .f64 0)), none, [], false⟩])
    (.seq (.reg [
       ⟨(some 3), .mv (.t 0), none, [], false⟩,
       ⟨(some 4), .xf 1 (.t 3), none, [], false⟩,
       ⟨(some 5), .bin .andNot (.t 4) (.k (.int .u64 9223372036854775808)), none, [], false⟩,
       ⟨(some 6), .xf 2 (.t 5), none, [], false⟩,
       ⟨(some 2), .mv (.t 6), none, [], false⟩])
     (.ret))
/-- math.IsInf -/
def c142 : CF where
  np := 2
  nt := 15
  res := [.t 4]
  code := .seq (.reg [
      ⟨(some 4), .mv (.k (.bool false)), none, [], false⟩])
    (.seq (.seq (.reg [
        ⟨(some 5), .mv (.t 1), none, [], false⟩,
        ⟨(some 6), .bin .eql (.t 5) (.k (.int .i64 0)), none, [], false⟩])
      (.cond (.t 6) (.reg [
         ⟨(some 7), .mv (.t 0), none, [], false⟩,
         ⟨(some 8), .call (.k (.fn 166 [])) [(.t 7)], none, [], false⟩,
         ⟨(some 0), .mv (.t 8), none, [], false⟩])
       (.seq (.reg [
          ⟨(some 9), .mv (.t 1), none, [], false⟩,
          ⟨(some 10), .bin .lss (.t 9) (.k (.int .i64 0)), none, [], false⟩])
        (.cond (.t 10) (.reg [
           ⟨(some 11), .mv (.t 0), none, [], false⟩,
           ⟨(some 12), .un .neg (.t 11), none, [], false⟩,
           ⟨(some 0), .mv (.t 12), none, [], false⟩])
         (.skip)))))
     (.seq (.reg [
        ⟨(some 13), .mv (.t 0), none, [], false⟩,
        ⟨(some 14), .bin .gtr (.t 13) (.k (.flt .f64 9218868437227405311)), none, [], false⟩,
        ⟨(some 4), .mv (.t 14), none, [], false⟩])
      (.ret)))
/-- math.IsNaN -/
def c143 : CF where
  np := 1
  nt := 6
  res := [.t 2]
  code := .seq (.reg [
      ⟨(some 2), .mv (.k (.bool false)), none, [], false⟩])
    (.seq (.reg [
       ⟨(some 3), .mv (.t 0), none, [], false⟩,
       ⟨(some 4), .mv (.t 0), none, [], false⟩,
       ⟨(some 5), .bin .neq (.t 3) (.t 4), none, [], false⟩,
       ⟨(some 2), .mv (.t 5), none, [], false⟩])
     (.ret))
/-- math.normalize -/
def c144 : CF where
  np := 1
  nt := 10
  res := [.t 2, .t 3]
  code := .seq (.reg [
      ⟨(some 2), .mv (.k (.flt .f64 0)), none, [], false⟩,
      ⟨(some 3), .mv (.k (.int .i64 0)), none, [], false⟩])
    (.seq (.seq (.reg [
        ⟨(some 4), .mv (.t 0), none, [], false⟩,
        ⟨(some 5), .call (.k (.fn 166 [])) [(.t 4)], none, [], false⟩,
        ⟨(some 6), .bin .lss (.t 5) (.k (.flt .f64 4503599627370496)), none, [], false⟩])
      (.cond (.t 6) (.seq (.reg [
          ⟨(some 7), .mv (.t 0), none, [], false⟩,
          ⟨(some 8), .bin .mul (.t 7) (.k (.flt .f64 4841369599423283200)), none, [], false⟩,
          ⟨(some 2), .mv (.t 8), none, [], false⟩,
          ⟨(some 3), .mv (.k (.int .i64 (-52))), none, [], false⟩])
        (.ret))
       (.skip)))
     (.seq (.reg [
        ⟨(some 9), .mv (.t 0), none, [], false⟩,
        ⟨(some 2), .mv (.t 9), none, [], false⟩,
        ⟨(some 3), .mv (.k (.int .i64 0)), none, [], false⟩])
      (.ret)))
/-- math.Copysign -/
def c145 : CF where
  np := 2
  nt := 13
  res := [.t 4]
  code := .seq (.reg [
      ⟨(some 4), .mv (.k (.flt .f64 0)), none, [], false⟩])
    (.seq (.reg [
       ⟨(some 5), .mv (.t 0), none, [], false⟩,
       ⟨(some 6), .xf 1 (.t 5), none, [], false⟩,
       ⟨(some 7), .bin .andNot (.t 6) (.k (.int .u64 9223372036854775808)), none, [], false⟩,
       ⟨(some 8), .mv (.t 1), none, [], false⟩,
       ⟨(some 9), .xf 1 (.t 8), none, [], false⟩,
       ⟨(some 10), .bin .and (.t 9) (.k (.int .u64 9223372036854775808)), none, [], false⟩,
       ⟨(some 11), .bin .or (.t 7) (.t 10), none, [], false⟩,
       ⟨(some 12), .xf 2 (.t 11), none, [], false⟩,
       ⟨(some 4), .mv (.t 12), none, [], false⟩])
     (.ret))
/-- math.Inf -/
def c146 : CF where
  np := 1
  nt := 8
  res := [.t 2]
  code := .seq (.reg [
      ⟨(some 2), .mv (.k (.flt .f64 0)), none, [], false⟩])
    (.seq (.reg [
       ⟨(some 3), .mv (.k (.int .u64 0)), none, [], false⟩])
     (.seq (.seq (.reg [
         ⟨(some 4), .mv (.t 0), none, [], false⟩,
         ⟨(some 5), .bin .geq (.t 4) (.k (.int .i64 0)), none, [], false⟩])
       (.cond (.t 5) (.reg [
          ⟨(some 3), .mv (.k (.int .u64 9218868437227405312)), none, [], false⟩])
        (.reg [
          ⟨(some 3), .mv (.k (.int .u64 18442240474082181120)), none, [], false⟩])))
      (.seq (.reg [
         ⟨(some 6), .mv (.t 3), none, [], false⟩,
         ⟨(some 7), .xf 2 (.t 6), none, [], false⟩,
         ⟨(some 2), .mv (.t 7), none, [], false⟩])
       (.ret))))
/-- math.ldexp -/
def c120 : CF where
  np := 2
  nt := 63
  res := [.t 4]
  code := .seq (.reg [
      ⟨(some 4), .mv (.k (.flt .f64 0)), none, [], false⟩])
    (.seq (.blk 0 (.seq (.reg [
         ⟨(some 9), .mv (.t 0), none, [], false⟩,
         ⟨(some 10), .bin .eql (.t 9) (.k (.flt .f64 0)), none, [], false⟩,
         ⟨(some 8), .mv (.t 10), none, [], false⟩])
       (.cond (.t 8) (.seq (.reg [
           ⟨(some 11), .mv (.t 0), none, [], false⟩,
           ⟨(some 4), .mv (.t 11), none, [], false⟩])
         (.ret))
        (.seq (.reg [
           ⟨(some 13), .mv (.t 0), none, [], false⟩,
           ⟨(some 14), .call (.k (.fn 142 [])) [(.t 13), (.k (.int .i64 0))], none, [], false⟩,
           ⟨(some 15), .mv (.t 14), none, [], false⟩,
           ⟨(some 16), .mv (.t 0), (some (15, false)), [], false⟩,
           ⟨(some 17), .call (.k (.fn 143 [])) [(.t 16)], (some (15, false)), [], false⟩,
           ⟨(some 18), .pick (.t 15) (.k (.bool true)) (.t 17), none, [], false⟩,
           ⟨(some 12), .mv (.t 18), none, [], false⟩])
         (.cond (.t 12) (.seq (.reg [
             ⟨(some 19), .mv (.t 0), none, [], false⟩,
             ⟨(some 4), .mv (.t 19), none, [], false⟩])
           (.ret))
          (.skip))))))
     (.seq (.reg [
        ⟨(some 21), .mv (.t 0), none, [], false⟩,
        ⟨(some 22), .call (.k (.fn 144 [])) [(.t 21)], none, [], false⟩,
        ⟨(some 20), .mv (.t 22), none, [], false⟩,
        ⟨(some 23), .ext (.t 20) 0, none, [], false⟩,
        ⟨(some 24), .ext (.t 20) 1, none, [], false⟩,
        ⟨(some 0), .mv (.t 23), none, [], false⟩,
        ⟨(some 5), .mv (.t 24), none, [], false⟩])
      (.seq (.reg [
         ⟨(some 25), .mv (.t 1), none, [], false⟩,
         ⟨(some 26), .mv (.t 5), none, [], false⟩,
         ⟨(some 27), .bin .add (.t 25) (.t 26), none, [], false⟩,
         ⟨(some 1), .mv (.t 27), none, [], false⟩])
       (.seq (.reg [
          ⟨(some 28), .mv (.t 0), none, [], false⟩,
          ⟨(some 29), .xf 1 (.t 28), none, [], false⟩,
          ⟨(some 6), .mv (.t 29), none, [], false⟩])
        (.seq (.reg [
           ⟨(some 30), .mv (.t 1), none, [], false⟩,
           ⟨(some 31), .mv (.t 6), none, [], false⟩,
           ⟨(some 32), .bin .shr (.t 31) (.k (.int .u64 52)), none, [], false⟩,
           ⟨(some 33), .cvi .i64 (.t 32), none, [], false⟩,
           ⟨(some 34), .bin .and (.t 33) (.k (.int .i64 2047)), none, [], false⟩,
           ⟨(some 35), .bin .sub (.t 34) (.k (.int .i64 1023)), none, [], false⟩,
           ⟨(some 36), .bin .add (.t 30) (.t 35), none, [], false⟩,
           ⟨(some 1), .mv (.t 36), none, [], false⟩])
         (.seq (.seq (.reg [
             ⟨(some 37), .mv (.t 1), none, [], false⟩,
             ⟨(some 38), .bin .lss (.t 37) (.k (.int .i64 (-1075))), none, [], false⟩])
           (.cond (.t 38) (.seq (.reg [
               ⟨(some 39), .mv (.t 0), none, [], false⟩,
               ⟨(some 40), .call (.k (.fn 145 [])) [(.k (.flt .f64 0)), (.t 39)], none, [], false⟩,
               ⟨(some 4), .mv (.t 40), none, [], false⟩])
             (.ret))
            (.skip)))
          (.seq (.seq (.reg [
              ⟨(some 41), .mv (.t 1), none, [], false⟩,
              ⟨(some 42), .bin .gtr (.t 41) (.k (.int .i64 1023)), none, [], false⟩])
            (.cond (.t 42) (.seq (.seq (.reg [
                 ⟨(some 43), .mv (.t 0), none, [], false⟩,
                 ⟨(some 44), .bin .lss (.t 43) (.k (.flt .f64 0)), none, [], false⟩])
               (.cond (.t 44) (.seq (.reg [
                   ⟨(some 45), .call (.k (.fn 146 [])) [(.k (.int .i64 (-1)))], none, [], false⟩,
                   ⟨(some 4), .mv (.t 45), none, [], false⟩])
                 (.ret))
                (.skip)))
              (.seq (.reg [
                 ⟨(some 46), .call (.k (.fn 146 [])) [(.k (.int .i64 1))], none, [], false⟩,
                 ⟨(some 4), .mv (.t 46), none, [], false⟩])
               (.ret)))
             (.skip)))
           (.seq (.reg [
              ⟨(some 7), .mv (.k (.flt .f64 4607182418800017408)), none, [], false⟩])
            (.seq (.seq (.reg [
                ⟨(some 47), .mv (.t 1), none, [], false⟩,
                ⟨(some 48), .bin .lss (.t 47) (.k (.int .i64 (-1022))), none, [], false⟩])
              (.cond (.t 48) (.seq (.reg [
                  ⟨(some 49), .mv (.t 1), none, [], false⟩,
                  ⟨(some 50), .bin .add (.t 49) (.k (.int .i64 53)), none, [], false⟩,
                  ⟨(some 1), .mv (.t 50), none, [], false⟩])
                (.reg [
                  ⟨(some 7), .mv (.k (.flt .f64 4368491638549381120)), none, [], false⟩]))
               (.skip)))
             (.seq (.reg [
                ⟨(some 51), .mv (.t 6), none, [], false⟩,
                ⟨(some 52), .bin .andNot (.t 51) (.k (.int .u64 9218868437227405312)), none, [], false⟩,
                ⟨(some 6), .mv (.t 52), none, [], false⟩])
              (.seq (.reg [
                 ⟨(some 53), .mv (.t 6), none, [], false⟩,
                 ⟨(some 54), .mv (.t 1), none, [], false⟩,
                 ⟨(some 55), .bin .add (.t 54) (.k (.int .i64 1023)), none, [], false⟩,
                 ⟨(some 56), .cvi .u64 (.t 55), none, [], false⟩,
                 ⟨(some 57), .bin .shl (.t 56) (.k (.int .u64 52)), none, [], false⟩,
                 ⟨(some 58), .bin .or (.t 53) (.t 57), none, [], false⟩,
                 ⟨(some 6), .mv (.t 58), none, [], false⟩])
               (.seq (.reg [
                  ⟨(some 59), .mv (.t 7), none, [], false⟩,
                  ⟨(some 60), .mv (.t 6), none, [], false⟩,
                  ⟨(some 61), .xf 2 (.t 60), none, [], false⟩,
                  ⟨(some 62), .bin .mul (.t 59) (.t 61), none, [], false⟩,
                  ⟨(some 4), .mv (.t 62), none, [], false⟩])
                (.ret)))))))))))))
/-- math.Ldexp -/
def c100 : CF where
  np := 2
  nt := 11
  res := [.t 4]
  code := .seq (.reg [
      ⟨(some 4), .mv (.k (.flt .f64 0)), none, [], false⟩])
    (.seq (.cond (.k (.bool false)) (.seq (.reg [
         ⟨(some 5), .mv (.t 0), none, [], false⟩,
         ⟨(some 6), .mv (.t 1), none, [], false⟩,
         ⟨(some 7), .call (.k (.fn 119 [])) [(.t 5), (.t 6)], none, [], false⟩,
         ⟨(some 4), .mv (.t 7), none, [], false⟩])
       (.ret))
      (.skip))
     (.seq (.reg [
        ⟨(some 8), .mv (.t 0), none, [], false⟩,
        ⟨(some 9), .mv (.t 1), none, [], false⟩,
        ⟨(some 10), .call (.k (.fn 120 [])) [(.t 8), (.t 9)], none, [], false⟩,
        ⟨(some 4), .mv (.t 10), none, [], false⟩])
      (.ret)))
/-- skyway/bits.FromFixed -/
def c61 : CF where
  np := 2
  nt := 18
  res := [.t 4, .t 5]
  code := .seq (.reg [
      ⟨(some 4), .mv (.k (.int .u64 0)), none, [], false⟩,
      ⟨(some 5), .mv (.k (.int .i64 0)), none, [], false⟩])
    (.seq (.seq (.reg [
        ⟨(some 6), .mv (.t 1), none, [], false⟩,
        ⟨(some 7), .bin .lss (.t 6) (.k (.int .i64 0)), none, [], false⟩,
        ⟨(some 8), .mv (.t 7), none, [], false⟩,
        ⟨(some 9), .mv (.t 1), (some (8, false)), [], false⟩,
        ⟨(some 10), .bin .gtr (.t 9) (.k (.int .i64 60)), (some (8, false)), [], false⟩,
        ⟨(some 11), .pick (.t 8) (.k (.bool true)) (.t 10), none, [], false⟩])
      (.cond (.t 11) (.seq (.reg [
          ⟨(some 4), .mv (.k (.int .u64 0)), none, [], false⟩,
          ⟨(some 5), .mv (.k (.int .i64 4)), none, [], false⟩])
        (.ret))
       (.skip)))
     (.seq (.reg [
        ⟨(some 12), .mv (.t 0), none, [], false⟩,
        ⟨(some 13), .cvf .f64 (.t 12), none, [], false⟩,
        ⟨(some 14), .mv (.t 1), none, [], false⟩,
        ⟨(some 15), .un .neg (.t 14), none, [], false⟩,
        ⟨(some 16), .call (.k (.fn 100 [])) [(.t 13), (.t 15)], none, [], false⟩,
        ⟨(some 17), .xf 1 (.t 16), none, [], false⟩,
        ⟨(some 4), .mv (.t 17), none, [], false⟩,
        ⟨(some 5), .mv (.k (.int .i64 0)), none, [], false⟩])
      (.ret)))
/-- skyway/wire.Sum -/
def c57 : CF where
  np := 1
  nt := 27
  res := [.t 2]
  code := .seq (.reg [
      ⟨(some 2), .mv (.k (.int .i64 0)), none, [], false⟩])
    (.seq (.reg [
       ⟨(some 3), .mv (.k (.int .i64 0)), none, [], false⟩,
       ⟨(some 4), .mv (.k (.int .i64 0)), none, [], false⟩])
     (.seq (.seq (.reg [
         ⟨(some 6), .mv (.t 0), none, [], false⟩,
         ⟨(some 7), .lenv true (.t 6), none, [], false⟩,
         ⟨(some 8), .mv (.k (.int .i64 0)), none, [], false⟩])
       (.blk 0 (.loop (.seq (.reg [
            ⟨(some 9), .bin .lss (.t 8) (.t 7), none, [], false⟩])
          (.seq (.cond (.t 9) (.skip)
            (.exit 0))
           (.seq (.blk 1 (.seq (.reg [
                ⟨(some 10), .mv (.t 8), none, [], false⟩,
                ⟨(some 5), .mv (.t 10), none, [], false⟩])
              (.seq (.reg [
                 ⟨(some 11), .mv (.t 3), none, [], false⟩,
                 ⟨(some 12), .mv (.t 0), none, [], false⟩,
                 ⟨(some 13), .mv (.t 5), none, [], false⟩,
                 ⟨(some 14), .ixs (.t 12) (.t 13), none, [], false⟩,
                 ⟨(some 15), .cvi .i64 (.t 14), none, [], false⟩,
                 ⟨(some 16), .bin .add (.t 11) (.t 15), none, [], false⟩,
                 ⟨(some 17), .bin .rem (.t 16) (.k (.int .i64 255)), none, [], false⟩,
                 ⟨(some 3), .mv (.t 17), none, [], false⟩])
               (.reg [
                 ⟨(some 18), .mv (.t 4), none, [], false⟩,
                 ⟨(some 19), .mv (.t 3), none, [], false⟩,
                 ⟨(some 20), .bin .add (.t 18) (.t 19), none, [], false⟩,
                 ⟨(some 21), .bin .rem (.t 20) (.k (.int .i64 255)), none, [], false⟩,
                 ⟨(some 4), .mv (.t 21), none, [], false⟩]))))
            (.reg [
              ⟨(some 22), .bin .add (.t 8) (.k (.int .i64 1)), none, [], false⟩,
              ⟨(some 8), .mv (.t 22), none, [], false⟩])))))))
      (.seq (.reg [
         ⟨(some 23), .mv (.t 4), none, [], false⟩,
         ⟨(some 24), .bin .shl (.t 23) (.k (.int .u64 8)), none, [], false⟩,
         ⟨(some 25), .mv (.t 3), none, [], false⟩,
         ⟨(some 26), .bin .or (.t 24) (.t 25), none, [], false⟩,
         ⟨(some 2), .mv (.t 26), none, [], false⟩])
       (.ret))))
/-- skyway/wire.Encode -/
def c22 : CF where
  np := 1
  nt := 73
  res := [.t 2, .t 3]
  code := .seq (.reg [
      ⟨(some 1), .box (.t 0), none, [], false⟩,
      ⟨(some 2), .mv (.k (.str ⟨#[]⟩)), none, [], false⟩,
      ⟨(some 3), .mv (.k (.int .i64 0)), none, [], false⟩])
    (.seq (.seq (.reg [
        ⟨(some 10), .ldn 3 (.t 1), none, [], false⟩,
        ⟨(some 11), .call (.k (.fn 59 [])) [(.t 10)], none, [], false⟩,
        ⟨(some 4), .mv (.t 11), none, [], false⟩])
      (.seq (.reg [
         ⟨(some 12), .mv (.t 4), none, [], false⟩,
         ⟨(some 13), .bin .neq (.t 12) (.k (.int .i64 0)), none, [], false⟩])
       (.cond (.t 13) (.seq (.reg [
           ⟨(some 14), .mv (.t 4), none, [], false⟩,
           ⟨(some 2), .mv (.k (.str ⟨#[]⟩)), none, [], false⟩,
           ⟨(some 3), .mv (.t 14), none, [], false⟩])
         (.ret))
        (.skip))))
     (.seq (.reg [
        ⟨(some 15), .mks [.int .u8 0, .int .u8 0] 1 2 [(0, 1, (.k (.int .u8 83))), (1, 1, (.k (.int .u8 87)))], none, [], false⟩,
        ⟨(some 16), .csc (.t 15), none, [], false⟩,
        ⟨(some 5), .mv (.t 16), none, [], false⟩])
      (.seq (.reg [
         ⟨(some 17), .mv (.t 5), none, [], false⟩,
         ⟨(some 18), .fad 0 (.t 1), none, [], false⟩,
         ⟨(some 19), .ld1 (.t 18), none, [], false⟩,
         ⟨(some 20), .cvi .u64 (.t 19), none, [], false⟩,
         ⟨(some 21), .call (.k (.fn 60 [])) [(.t 17), (.t 20), (.k (.int .i64 1))], none, [], false⟩,
         ⟨(some 5), .mv (.t 21), none, [], false⟩])
       (.seq (.reg [
          ⟨(some 22), .mv (.t 5), none, [], false⟩,
          ⟨(some 23), .fad 1 (.t 1), none, [], false⟩,
          ⟨(some 24), .ld1 (.t 23), none, [], false⟩,
          ⟨(some 25), .cvi .u64 (.t 24), none, [], false⟩,
          ⟨(some 26), .call (.k (.fn 60 [])) [(.t 22), (.t 25), (.k (.int .i64 4))], none, [], false⟩,
          ⟨(some 5), .mv (.t 26), none, [], false⟩])
        (.seq (.reg [
           ⟨(some 27), .mv (.t 5), none, [], false⟩,
           ⟨(some 28), .fad 2 (.t 1), none, [], false⟩,
           ⟨(some 29), .ld1 (.t 28), none, [], false⟩,
           ⟨(some 30), .lenv false (.t 29), none, [], false⟩,
           ⟨(some 31), .cvi .u64 (.t 30), none, [], false⟩,
           ⟨(some 32), .call (.k (.fn 60 [])) [(.t 27), (.t 31), (.k (.int .i64 2))], none, [], false⟩,
           ⟨(some 5), .mv (.t 32), none, [], false⟩])
         (.seq (.seq (.reg [
             ⟨(some 33), .fad 2 (.t 1), none, [], false⟩,
             ⟨(some 34), .ld1 (.t 33), none, [], false⟩,
             ⟨(some 35), .lenv false (.t 34), none, [], false⟩,
             ⟨(some 36), .mv (.k (.int .i64 0)), none, [], false⟩])
           (.blk 0 (.loop (.seq (.reg [
                ⟨(some 37), .bin .lss (.t 36) (.t 35), none, [], false⟩])
              (.seq (.cond (.t 37) (.skip)
                (.exit 0))
               (.seq (.blk 1 (.seq (.reg [
                    ⟨(some 38), .iad 6 (.t 34) (.t 36), none, [], false⟩,
                    ⟨(some 39), .ldn 6 (.t 38), none, [], false⟩,
                    ⟨(some 7), .new [.int .i64 0, .int .i64 0, .int .i64 0, .int .i64 0, .int .i64 0, .int .i64 0], none, [], false⟩,
                    ⟨none, .st 6 (.t 7) (.t 39), none, [], false⟩])
                  (.seq (.reg [
                     ⟨(some 41), .fad 2 (.t 7), none, [], false⟩,
                     ⟨(some 42), .ld1 (.t 41), none, [], false⟩,
                     ⟨(some 43), .call (.k (.fn 61 [])) [(.t 42), (.k (.int .i64 0))], none, [], false⟩,
                     ⟨(some 40), .mv (.t 43), none, [], false⟩,
                     ⟨(some 44), .ext (.t 40) 0, none, [], false⟩,
                     ⟨(some 45), .ext (.t 40) 1, none, [], false⟩,
                     ⟨(some 8), .mv (.t 44), none, [], false⟩,
                     ⟨(some 9), .mv (.t 45), none, [], false⟩])
                   (.seq (.reg [
                      ⟨(some 46), .mv (.t 5), none, [], false⟩,
                      ⟨(some 47), .mv (.t 8), none, [], false⟩,
                      ⟨(some 48), .call (.k (.fn 60 [])) [(.t 46), (.t 47), (.k (.int .i64 8))], none, [], false⟩,
                      ⟨(some 5), .mv (.t 48), none, [], false⟩])
                    (.seq (.reg [
                       ⟨(some 49), .mv (.t 5), none, [], false⟩,
                       ⟨(some 50), .fad 3 (.t 7), none, [], false⟩,
                       ⟨(some 51), .ld1 (.t 50), none, [], false⟩,
                       ⟨(some 52), .cvi .u64 (.t 51), none, [], false⟩,
                       ⟨(some 53), .call (.k (.fn 60 [])) [(.t 49), (.t 52), (.k (.int .i64 2))], none, [], false⟩,
                       ⟨(some 5), .mv (.t 53), none, [], false⟩])
                     (.seq (.reg [
                        ⟨(some 54), .mv (.t 5), none, [], false⟩,
                        ⟨(some 55), .fad 4 (.t 7), none, [], false⟩,
                        ⟨(some 56), .ld1 (.t 55), none, [], false⟩,
                        ⟨(some 57), .cvi .u64 (.t 56), none, [], false⟩,
                        ⟨(some 58), .call (.k (.fn 60 [])) [(.t 54), (.t 57), (.k (.int .i64 4))], none, [], false⟩,
                        ⟨(some 5), .mv (.t 58), none, [], false⟩])
                      (.reg [
                        ⟨(some 59), .mv (.t 5), none, [], false⟩,
                        ⟨(some 60), .fad 5 (.t 7), none, [], false⟩,
                        ⟨(some 61), .ld1 (.t 60), none, [], false⟩,
                        ⟨(some 62), .bin .add (.t 61) (.k (.int .i64 1)), none, [], false⟩,
                        ⟨(some 63), .cvi .u64 (.t 62), none, [], false⟩,
                        ⟨(some 64), .call (.k (.fn 60 [])) [(.t 59), (.t 63), (.k (.int .i64 2))], none, [], false⟩,
                        ⟨(some 5), .mv (.t 64), none, [], false⟩])))))))
                (.reg [
                  ⟨(some 65), .bin .add (.t 36) (.k (.int .i64 1)), none, [], false⟩,
                  ⟨(some 36), .mv (.t 65), none, [], false⟩])))))))
          (.seq (.reg [
             ⟨(some 66), .mv (.t 5), none, [], false⟩,
             ⟨(some 67), .mv (.t 5), none, [], false⟩,
             ⟨(some 68), .cbs (.t 67), none, [], false⟩,
             ⟨(some 69), .call (.k (.fn 57 [])) [(.t 68)], none, [], false⟩,
             ⟨(some 70), .cvi .u64 (.t 69), none, [], false⟩,
             ⟨(some 71), .call (.k (.fn 60 [])) [(.t 66), (.t 70), (.k (.int .i64 2))], none, [], false⟩,
             ⟨(some 72), .cbs (.t 71), none, [], false⟩,
             ⟨(some 2), .mv (.t 72), none, [], false⟩,
             ⟨(some 3), .mv (.k (.int .i64 0)), none, [], false⟩])
           (.ret))))))))
/-- skyway/wire.get -/
def c56 : CF where
  np := 3
  nt := 24
  res := [.t 6]
  code := .seq (.reg [
      ⟨(some 6), .mv (.k (.int .u64 0)), none, [], false⟩])
    (.seq (.reg [
       ⟨(some 7), .mv (.k (.int .u64 0)), none, [], false⟩])
     (.seq (.seq (.reg [
         ⟨(some 9), .mv (.t 2), none, [], false⟩,
         ⟨(some 10), .mv (.k (.int .i64 0)), none, [], false⟩])
       (.blk 0 (.loop (.seq (.reg [
            ⟨(some 11), .bin .lss (.t 10) (.t 9), none, [], false⟩])
          (.seq (.cond (.t 11) (.skip)
            (.exit 0))
           (.seq (.blk 1 (.seq (.reg [
                ⟨(some 12), .mv (.t 10), none, [], false⟩,
                ⟨(some 8), .mv (.t 12), none, [], false⟩])
              (.reg [
                ⟨(some 13), .mv (.t 7), none, [], false⟩,
                ⟨(some 14), .bin .shl (.t 13) (.k (.int .u64 8)), none, [], false⟩,
                ⟨(some 15), .mv (.t 0), none, [], false⟩,
                ⟨(some 16), .mv (.t 1), none, [], false⟩,
                ⟨(some 17), .mv (.t 8), none, [], false⟩,
                ⟨(some 18), .bin .add (.t 16) (.t 17), none, [], false⟩,
                ⟨(some 19), .ixs (.t 15) (.t 18), none, [], false⟩,
                ⟨(some 20), .cvi .u64 (.t 19), none, [], false⟩,
                ⟨(some 21), .bin .or (.t 14) (.t 20), none, [], false⟩,
                ⟨(some 7), .mv (.t 21), none, [], false⟩])))
            (.reg [
              ⟨(some 22), .bin .add (.t 10) (.k (.int .i64 1)), none, [], false⟩,
              ⟨(some 10), .mv (.t 22), none, [], false⟩])))))))
      (.seq (.reg [
         ⟨(some 23), .mv (.t 7), none, [], false⟩,
         ⟨(some 6), .mv (.t 23), none, [], false⟩])
       (.ret))))
/-- skyway/bits.finite -/
def c116 : CF where
  np := 1
  nt := 7
  res := [.t 2]
  code := .seq (.reg [
      ⟨(some 2), .mv (.k (.bool false)), none, [], false⟩])
    (.seq (.reg [
       ⟨(some 3), .mv (.t 0), none, [], false⟩,
       ⟨(some 4), .bin .shr (.t 3) (.k (.int .u64 52)), none, [], false⟩,
       ⟨(some 5), .bin .and (.t 4) (.k (.int .u64 2047)), none, [], false⟩,
       ⟨(some 6), .bin .neq (.t 5) (.k (.int .u64 2047)), none, [], false⟩,
       ⟨(some 2), .mv (.t 6), none, [], false⟩])
     (.ret))
/-- skyway/bits.parts -/
def c117 : CF where
  np := 1
  nt := 23
  res := [.t 2, .t 3, .t 4]
  code := .seq (.reg [
      ⟨(some 2), .mv (.k (.bool false)), none, [], false⟩,
      ⟨(some 3), .mv (.k (.int .i64 0)), none, [], false⟩,
      ⟨(some 4), .mv (.k (.int .u64 0)), none, [], false⟩])
    (.seq (.reg [
       ⟨(some 5), .mv (.t 0), none, [], false⟩,
       ⟨(some 6), .bin .shr (.t 5) (.k (.int .u64 63)), none, [], false⟩,
       ⟨(some 7), .bin .eql (.t 6) (.k (.int .u64 1)), none, [], false⟩,
       ⟨(some 8), .mv (.t 0), none, [], false⟩,
       ⟨(some 9), .bin .shr (.t 8) (.k (.int .u64 52)), none, [], false⟩,
       ⟨(some 10), .bin .and (.t 9) (.k (.int .u64 2047)), none, [], false⟩,
       ⟨(some 11), .cvi .i64 (.t 10), none, [], false⟩,
       ⟨(some 12), .mv (.t 0), none, [], false⟩,
       ⟨(some 13), .bin .and (.t 12) (.k (.int .u64 4503599627370495)), none, [], false⟩,
       ⟨(some 2), .mv (.t 7), none, [], false⟩,
       ⟨(some 3), .mv (.t 11), none, [], false⟩,
       ⟨(some 4), .mv (.t 13), none, [], false⟩])
     (.seq (.seq (.reg [
         ⟨(some 14), .mv (.t 3), none, [], false⟩,
         ⟨(some 15), .bin .gtr (.t 14) (.k (.int .i64 0)), none, [], false⟩])
       (.cond (.t 15) (.reg [
          ⟨(some 16), .mv (.t 4), none, [], false⟩,
          ⟨(some 17), .bin .or (.t 16) (.k (.int .u64 4503599627370496)), none, [], false⟩,
          ⟨(some 4), .mv (.t 17), none, [], false⟩])
        (.reg [
          ⟨(some 3), .mv (.k (.int .i64 1)), none, [], false⟩])))
      (.seq (.reg [
         ⟨(some 18), .mv (.t 2), none, [], false⟩,
         ⟨(some 19), .mv (.t 3), none, [], false⟩,
         ⟨(some 20), .bin .sub (.t 19) (.k (.int .i64 1023)), none, [], false⟩,
         ⟨(some 21), .bin .sub (.t 20) (.k (.int .i64 52)), none, [], false⟩,
         ⟨(some 22), .mv (.t 4), none, [], false⟩,
         ⟨(some 2), .mv (.t 18), none, [], false⟩,
         ⟨(some 3), .mv (.t 21), none, [], false⟩,
         ⟨(some 4), .mv (.t 22), none, [], false⟩])
       (.ret))))
/-- math/bits.Len64 -/
def c118 : CF where
  np := 1
  nt := 25
  res := [.t 2]
  code := .seq (.reg [
      ⟨(some 2), .mv (.k (.int .i64 0)), none, [], false⟩])
    (.seq (.seq (.reg [
        ⟨(some 3), .mv (.t 0), none, [], false⟩,
        ⟨(some 4), .bin .geq (.t 3) (.k (.int .u64 4294967296)), none, [], false⟩])
      (.cond (.t 4) (.seq (.reg [
          ⟨(some 5), .mv (.t 0), none, [], false⟩,
          ⟨(some 6), .bin .shr (.t 5) (.k (.int .u64 32)), none, [], false⟩,
          ⟨(some 0), .mv (.t 6), none, [], false⟩])
        (.reg [
          ⟨(some 2), .mv (.k (.int .i64 32)), none, [], false⟩]))
       (.skip)))
     (.seq (.seq (.reg [
         ⟨(some 7), .mv (.t 0), none, [], false⟩,
         ⟨(some 8), .bin .geq (.t 7) (.k (.int .u64 65536)), none, [], false⟩])
       (.cond (.t 8) (.seq (.reg [
           ⟨(some 9), .mv (.t 0), none, [], false⟩,
           ⟨(some 10), .bin .shr (.t 9) (.k (.int .u64 16)), none, [], false⟩,
           ⟨(some 0), .mv (.t 10), none, [], false⟩])
         (.reg [
           ⟨(some 11), .mv (.t 2), none, [], false⟩,
           ⟨(some 12), .bin .add (.t 11) (.k (.int .i64 16)), none, [], false⟩,
           ⟨(some 2), .mv (.t 12), none, [], false⟩]))
        (.skip)))
      (.seq (.seq (.reg [
          ⟨(some 13), .mv (.t 0), none, [], false⟩,
          ⟨(some 14), .bin .geq (.t 13) (.k (.int .u64 256)), none, [], false⟩])
        (.cond (.t 14) (.seq (.reg [
            ⟨(some 15), .mv (.t 0), none, [], false⟩,
            ⟨(some 16), .bin .shr (.t 15) (.k (.int .u64 8)), none, [], false⟩,
            ⟨(some 0), .mv (.t 16), none, [], false⟩])
          (.reg [
            ⟨(some 17), .mv (.t 2), none, [], false⟩,
            ⟨(some 18), .bin .add (.t 17) (.k (.int .i64 8)), none, [], false⟩,
            ⟨(some 2), .mv (.t 18), none, [], false⟩]))
         (.skip)))
       (.seq (.reg [
          ⟨(some 19), .mv (.t 2), none, [], false⟩,
          ⟨(some 20), .mv (.t 0), none, [], false⟩,
          ⟨(some 21), .cvi .u8 (.t 20), none, [], false⟩,
          ⟨(some 22), .ixs (.k (.str ⟨#[0, 1, 2, 2, 3, 3, 3, 3, 4, 4, 4, 4, 4, 4, 4, 4, 5, 5, 5, 5, 5, 5, 5, 5, 5, 5, 5, 5, 5, 5, 5, 5, 6, 6, 6, 6, 6, 6, 6, 6, 6, 6, 6, 6, 6, 6, 6, 6, 6, 6, 6, 6, 6, 6, 6, 6, 6, 6, 6, 6, 6, 6, 6, 6, 7, 7, 7, 7, 7, 7, 7, 7, 7, 7, 7, 7, 7, 7, 7, 7, 7, 7, 7, 7, 7, 7, 7, 7, 7, 7, 7, 7, 7, 7, 7, 7, 7, 7, 7, 7, 7, 7, 7, 7, 7, 7, 7, 7, 7, 7, 7, 7, 7, 7, 7, 7, 7, 7, 7, 7, 7, 7, 7, 7, 7, 7, 7, 7, 8, 8, 8, 8, 8, 8, 8, 8, 8, 8, 8, 8, 8, 8, 8, 8, 8, 8, 8, 8, 8, 8, 8, 8, 8, 8, 8, 8, 8, 8, 8, 8, 8, 8, 8, 8, 8, 8, 8, 8, 8, 8, 8, 8, 8, 8, 8, 8, 8, 8, 8, 8, 8, 8, 8, 8, 8, 8, 8, 8, 8, 8, 8, 8, 8, 8, 8, 8, 8, 8, 8, 8, 8, 8, 8, 8, 8, 8, 8, 8, 8, 8, 8, 8, 8, 8, 8, 8, 8, 8, 8, 8, 8, 8, 8, 8, 8, 8, 8, 8, 8, 8, 8, 8, 8, 8, 8, 8, 8, 8, 8, 8, 8, 8, 8, 8, 8, 8, 8, 8, 8, 8, 8, 8, 8, 8, 8, 8]⟩)) (.t 21), none, [], false⟩,
          ⟨(some 23), .cvi .i64 (.t 22), none, [], false⟩,
          ⟨(some 24), .bin .add (.t 19) (.t 23), none, [], false⟩,
          ⟨(some 2), .mv (.t 24), none, [], false⟩])
        (.ret)))))
/-- skyway/bits.ToFixed -/
def c97 : CF where
  np := 2
  nt := 82
  res := [.t 4, .t 5, .t 6]
  code := .seq (.reg [
      ⟨(some 4), .mv (.k (.int .i64 0)), none, [], false⟩,
      ⟨(some 5), .mv (.k (.bool false)), none, [], false⟩,
      ⟨(some 6), .mv (.k (.int .i64 0)), none, [], false⟩])
    (.seq (.blk 0 (.seq (.reg [
         ⟨(some 12), .mv (.t 1), none, [], false⟩,
         ⟨(some 13), .bin .lss (.t 12) (.k (.int .i64 0)), none, [], false⟩,
         ⟨(some 14), .mv (.t 13), none, [], false⟩,
         ⟨(some 15), .mv (.t 1), (some (14, false)), [], false⟩,
         ⟨(some 16), .bin .gtr (.t 15) (.k (.int .i64 60)), (some (14, false)), [], false⟩,
         ⟨(some 17), .pick (.t 14) (.k (.bool true)) (.t 16), none, [], false⟩,
         ⟨(some 11), .mv (.t 17), none, [], false⟩])
       (.cond (.t 11) (.seq (.reg [
           ⟨(some 4), .mv (.k (.int .i64 0)), none, [], false⟩,
           ⟨(some 5), .mv (.k (.bool false)), none, [], false⟩,
           ⟨(some 6), .mv (.k (.int .i64 4)), none, [], false⟩])
         (.ret))
        (.seq (.reg [
           ⟨(some 19), .mv (.t 0), none, [], false⟩,
           ⟨(some 20), .call (.k (.fn 116 [])) [(.t 19)], none, [], false⟩,
           ⟨(some 21), .un .not (.t 20), none, [], false⟩,
           ⟨(some 18), .mv (.t 21), none, [], false⟩])
         (.cond (.t 18) (.seq (.reg [
             ⟨(some 4), .mv (.k (.int .i64 0)), none, [], false⟩,
             ⟨(some 5), .mv (.k (.bool false)), none, [], false⟩,
             ⟨(some 6), .mv (.k (.int .i64 3)), none, [], false⟩])
           (.ret))
          (.skip))))))
     (.seq (.reg [
        ⟨(some 23), .mv (.t 0), none, [], false⟩,
        ⟨(some 24), .call (.k (.fn 117 [])) [(.t 23)], none, [], false⟩,
        ⟨(some 22), .mv (.t 24), none, [], false⟩,
        ⟨(some 25), .ext (.t 22) 0, none, [], false⟩,
        ⟨(some 26), .ext (.t 22) 1, none, [], false⟩,
        ⟨(some 27), .ext (.t 22) 2, none, [], false⟩,
        ⟨(some 7), .mv (.t 25), none, [], false⟩,
        ⟨(some 8), .mv (.t 26), none, [], false⟩,
        ⟨(some 9), .mv (.t 27), none, [], false⟩])
      (.seq (.reg [
         ⟨(some 28), .mv (.t 8), none, [], false⟩,
         ⟨(some 29), .mv (.t 1), none, [], false⟩,
         ⟨(some 30), .bin .add (.t 28) (.t 29), none, [], false⟩,
         ⟨(some 8), .mv (.t 30), none, [], false⟩])
       (.seq (.reg [
          ⟨(some 10), .mv (.k (.bool false)), none, [], false⟩])
        (.seq (.blk 1 (.seq (.reg [
             ⟨(some 43), .mv (.t 9), none, [], false⟩,
             ⟨(some 44), .bin .eql (.t 43) (.k (.int .u64 0)), none, [], false⟩,
             ⟨(some 42), .mv (.t 44), none, [], false⟩])
           (.cond (.t 42) (.seq (.reg [
               ⟨(some 4), .mv (.k (.int .i64 0)), none, [], false⟩,
               ⟨(some 5), .mv (.k (.bool true)), none, [], false⟩,
               ⟨(some 6), .mv (.k (.int .i64 0)), none, [], false⟩])
             (.ret))
            (.seq (.reg [
               ⟨(some 46), .mv (.t 8), none, [], false⟩,
               ⟨(some 47), .bin .gtr (.t 46) (.k (.int .i64 0)), none, [], false⟩,
               ⟨(some 45), .mv (.t 47), none, [], false⟩])
             (.cond (.t 45) (.seq (.seq (.reg [
                  ⟨(some 48), .mv (.t 9), none, [], false⟩,
                  ⟨(some 49), .call (.k (.fn 118 [])) [(.t 48)], none, [], false⟩,
                  ⟨(some 50), .mv (.t 8), none, [], false⟩,
                  ⟨(some 51), .bin .add (.t 49) (.t 50), none, [], false⟩,
                  ⟨(some 52), .bin .gtr (.t 51) (.k (.int .i64 64)), none, [], false⟩])
                (.cond (.t 52) (.seq (.reg [
                    ⟨(some 4), .mv (.k (.int .i64 0)), none, [], false⟩,
                    ⟨(some 5), .mv (.k (.bool false)), none, [], false⟩,
                    ⟨(some 6), .mv (.k (.int .i64 2)), none, [], false⟩])
                  (.ret))
                 (.skip)))
               (.reg [
                 ⟨(some 53), .mv (.t 9), none, [], false⟩,
                 ⟨(some 54), .mv (.t 8), none, [], false⟩,
                 ⟨(some 55), .bin .shl (.t 53) (.t 54), none, [], false⟩,
                 ⟨(some 9), .mv (.t 55), none, [], false⟩]))
              (.seq (.reg [
                 ⟨(some 57), .mv (.t 8), none, [], false⟩,
                 ⟨(some 58), .bin .lss (.t 57) (.k (.int .i64 (-63))), none, [], false⟩,
                 ⟨(some 56), .mv (.t 58), none, [], false⟩])
               (.cond (.t 56) (.reg [
                  ⟨(some 9), .mv (.k (.int .u64 0)), none, [], false⟩,
                  ⟨(some 10), .mv (.k (.bool true)), none, [], false⟩])
                (.seq (.reg [
                   ⟨(some 31), .mv (.t 9), none, [], false⟩,
                   ⟨(some 32), .mv (.t 8), none, [], false⟩,
                   ⟨(some 33), .un .neg (.t 32), none, [], false⟩,
                   ⟨(some 34), .bin .shl (.k (.int .u64 1)) (.t 33), none, [], false⟩,
                   ⟨(some 35), .bin .sub (.t 34) (.k (.int .u64 1)), none, [], false⟩,
                   ⟨(some 36), .bin .and (.t 31) (.t 35), none, [], false⟩,
                   ⟨(some 37), .bin .neq (.t 36) (.k (.int .u64 0)), none, [], false⟩,
                   ⟨(some 10), .mv (.t 37), none, [], false⟩])
                 (.reg [
                   ⟨(some 38), .mv (.t 9), none, [], false⟩,
                   ⟨(some 39), .mv (.t 8), none, [], false⟩,
                   ⟨(some 40), .un .neg (.t 39), none, [], false⟩,
                   ⟨(some 41), .bin .shr (.t 38) (.t 40), none, [], false⟩,
                   ⟨(some 9), .mv (.t 41), none, [], false⟩])))))))))
         (.seq (.blk 2 (.seq (.blk 5 (.seq (.blk 4 (.seq (.blk 3 (.seq (.seq (.seq (.reg [
                      ⟨(some 60), .mv (.t 7), none, [], false⟩,
                      ⟨(some 61), .mv (.t 60), none, [], false⟩,
                      ⟨(some 62), .mv (.t 10), (some (61, true)), [], false⟩,
                      ⟨(some 63), .pick (.t 61) (.t 62) (.k (.bool false)), none, [], false⟩,
                      ⟨(some 59), .mv (.t 63), none, [], false⟩])
                    (.cond (.t 59) (.exit 3)
                     (.skip)))
                   (.seq (.seq (.reg [
                       ⟨(some 65), .mv (.t 7), none, [], false⟩,
                       ⟨(some 64), .mv (.t 65), none, [], false⟩])
                     (.cond (.t 64) (.exit 4)
                      (.skip)))
                    (.seq (.reg [
                       ⟨(some 67), .mv (.t 9), none, [], false⟩,
                       ⟨(some 68), .bin .geq (.t 67) (.k (.int .u64 9223372036854775808)), none, [], false⟩,
                       ⟨(some 66), .mv (.t 68), none, [], false⟩])
                     (.cond (.t 66) (.exit 5)
                      (.skip)))))
                  (.exit 2)))
                (.reg [
                  ⟨(some 69), .mv (.t 9), none, [], false⟩,
                  ⟨(some 70), .bin .add (.t 69) (.k (.int .u64 1)), none, [], false⟩,
                  ⟨(some 9), .mv (.t 70), none, [], false⟩])))
              (.seq (.seq (.seq (.reg [
                   ⟨(some 71), .mv (.t 9), none, [], false⟩,
                   ⟨(some 72), .bin .gtr (.t 71) (.k (.int .u64 9223372036854775808)), none, [], false⟩])
                 (.cond (.t 72) (.seq (.reg [
                     ⟨(some 4), .mv (.k (.int .i64 0)), none, [], false⟩,
                     ⟨(some 5), .mv (.k (.bool false)), none, [], false⟩,
                     ⟨(some 6), .mv (.k (.int .i64 2)), none, [], false⟩])
                   (.ret))
                  (.skip)))
                (.seq (.reg [
                   ⟨(some 73), .mv (.t 9), none, [], false⟩,
                   ⟨(some 74), .un .neg (.t 73), none, [], false⟩,
                   ⟨(some 75), .cvi .i64 (.t 74), none, [], false⟩,
                   ⟨(some 76), .mv (.t 10), none, [], false⟩,
                   ⟨(some 77), .un .not (.t 76), none, [], false⟩,
                   ⟨(some 4), .mv (.t 75), none, [], false⟩,
                   ⟨(some 5), .mv (.t 77), none, [], false⟩,
                   ⟨(some 6), .mv (.k (.int .i64 0)), none, [], false⟩])
                 (.ret)))
               (.exit 2))))
            (.seq (.seq (.reg [
                ⟨(some 4), .mv (.k (.int .i64 0)), none, [], false⟩,
                ⟨(some 5), .mv (.k (.bool false)), none, [], false⟩,
                ⟨(some 6), .mv (.k (.int .i64 2)), none, [], false⟩])
              (.ret))
             (.exit 2))))
          (.seq (.reg [
             ⟨(some 78), .mv (.t 9), none, [], false⟩,
             ⟨(some 79), .cvi .i64 (.t 78), none, [], false⟩,
             ⟨(some 80), .mv (.t 10), none, [], false⟩,
             ⟨(some 81), .un .not (.t 80), none, [], false⟩,
             ⟨(some 4), .mv (.t 79), none, [], false⟩,
             ⟨(some 5), .mv (.t 81), none, [], false⟩,
             ⟨(some 6), .mv (.k (.int .i64 0)), none, [], false⟩])
           (.ret))))))))
/-- skyway/wire.plot -/
def c58 : CF where
  np := 3
  nt := 68
  res := [.cn 6 6, .t 7]
  code := .seq (.reg [
      ⟨(some 5), .box (.t 2), none, [], false⟩,
      ⟨(some 6), .new [.int .i64 0, .int .i64 0, .int .i64 0, .int .i64 0, .int .i64 0, .int .i64 0], none, [], false⟩,
      ⟨(some 7), .mv (.k (.bool false)), none, [], false⟩])
    (.seq (.reg [
       ⟨(some 15), .mv (.t 0), none, [], false⟩,
       ⟨(some 16), .mv (.t 1), none, [], false⟩,
       ⟨(some 17), .call (.k (.fn 56 [])) [(.t 15), (.t 16), (.k (.int .i64 8))], none, [], false⟩,
       ⟨(some 18), .call (.k (.fn 97 [])) [(.t 17), (.k (.int .i64 0))], none, [], false⟩,
       ⟨(some 14), .mv (.t 18), none, [], false⟩,
       ⟨(some 19), .ext (.t 14) 0, none, [], false⟩,
       ⟨(some 20), .ext (.t 14) 1, none, [], false⟩,
       ⟨(some 21), .ext (.t 14) 2, none, [], false⟩,
       ⟨(some 8), .mv (.t 19), none, [], false⟩,
       ⟨(some 9), .mv (.t 20), none, [], false⟩,
       ⟨(some 10), .mv (.t 21), none, [], false⟩])
     (.seq (.reg [
        ⟨(some 22), .fad 0 (.t 5), none, [], false⟩,
        ⟨(some 23), .ld1 (.t 22), none, [], false⟩,
        ⟨(some 24), .fad 1 (.t 5), none, [], false⟩,
        ⟨(some 25), .ld1 (.t 24), none, [], false⟩,
        ⟨(some 26), .mv (.t 8), none, [], false⟩,
        ⟨(some 27), .mv (.t 0), none, [], false⟩,
        ⟨(some 28), .mv (.t 1), none, [], false⟩,
        ⟨(some 29), .bin .add (.t 28) (.k (.int .i64 8)), none, [], false⟩,
        ⟨(some 32), .mv (.t 0), none, [], false⟩,
        ⟨(some 33), .mv (.t 1), none, [], false⟩,
        ⟨(some 34), .bin .add (.t 33) (.k (.int .i64 10)), none, [], false⟩,
        ⟨(some 37), .mv (.t 0), none, [], false⟩,
        ⟨(some 38), .mv (.t 1), none, [], false⟩,
        ⟨(some 39), .bin .add (.t 38) (.k (.int .i64 14)), none, [], false⟩,
        ⟨(some 11), .new [.int .i64 0, .int .i64 0, .int .i64 0, .int .i64 0, .int .i64 0, .int .i64 0], none, [], false⟩,
        ⟨(some 30), .call (.k (.fn 56 [])) [(.t 27), (.t 29), (.k (.int .i64 2))], none, [], true⟩,
        ⟨(some 31), .cvi .i64 (.t 30), none, [], false⟩,
        ⟨(some 35), .call (.k (.fn 56 [])) [(.t 32), (.t 34), (.k (.int .i64 4))], none, [], true⟩,
        ⟨(some 36), .cvi .i64 (.t 35), none, [], false⟩,
        ⟨(some 40), .call (.k (.fn 56 [])) [(.t 37), (.t 39), (.k (.int .i64 2))], none, [], true⟩,
        ⟨(some 41), .cvi .i64 (.t 40), none, [], false⟩,
        ⟨(some 42), .bin .sub (.t 41) (.k (.int .i64 1)), none, [], false⟩,
        ⟨(some 43), .mk [.int .i64 0, .int .i64 0, .int .i64 0, .int .i64 0, .int .i64 0, .int .i64 0] [(0, 1, (.t 23)), (1, 1, (.t 25)), (2, 1, (.t 26)), (3, 1, (.t 31)), (4, 1, (.t 36)), (5, 1, (.t 42))], none, [], false⟩,
        ⟨none, .st 6 (.t 11) (.t 43), none, [], false⟩])
      (.seq (.reg [
         ⟨(some 45), .mv (.t 8), none, [], false⟩,
         ⟨(some 46), .call (.k (.fn 61 [])) [(.t 45), (.k (.int .i64 0))], none, [], false⟩,
         ⟨(some 44), .mv (.t 46), none, [], false⟩,
         ⟨(some 47), .ext (.t 44) 0, none, [], false⟩,
         ⟨(some 48), .ext (.t 44) 1, none, [], false⟩,
         ⟨(some 12), .mv (.t 47), none, [], false⟩,
         ⟨(some 13), .mv (.t 48), none, [], false⟩])
       (.seq (.reg [
          ⟨(some 49), .ldn 6 (.t 11), none, [], false⟩,
          ⟨(some 50), .mv (.t 10), none, [], false⟩,
          ⟨(some 51), .bin .eql (.t 50) (.k (.int .i64 0)), none, [], false⟩,
          ⟨(some 52), .mv (.t 51), none, [], false⟩,
          ⟨(some 53), .mv (.t 9), (some (52, true)), [], false⟩,
          ⟨(some 54), .pick (.t 52) (.t 53) (.k (.bool false)), none, [], false⟩,
          ⟨(some 55), .mv (.t 54), none, [], false⟩,
          ⟨(some 56), .mv (.t 12), (some (55, true)), [], false⟩,
          ⟨(some 57), .mv (.t 0), (some (55, true)), [], false⟩,
          ⟨(some 58), .mv (.t 1), (some (55, true)), [], false⟩,
          ⟨(some 59), .call (.k (.fn 56 [])) [(.t 57), (.t 58), (.k (.int .i64 8))], (some (55, true)), [], true⟩,
          ⟨(some 60), .bin .eql (.t 56) (.t 59), (some (55, true)), [], false⟩,
          ⟨(some 61), .pick (.t 55) (.t 60) (.k (.bool false)), none, [], false⟩,
          ⟨(some 62), .mv (.t 61), none, [], false⟩,
          ⟨(some 63), .ldn 3 (.t 5), (some (62, true)), [], false⟩,
          ⟨(some 64), .ldn 6 (.t 11), (some (62, true)), [], false⟩,
          ⟨(some 65), .call (.k (.fn 98 [])) [(.t 63), (.t 64)], (some (62, true)), [], true⟩,
          ⟨(some 66), .bin .eql (.t 65) (.k (.int .i64 0)), (some (62, true)), [], false⟩,
          ⟨(some 67), .pick (.t 62) (.t 66) (.k (.bool false)), none, [], false⟩,
          ⟨none, .st 6 (.t 6) (.t 49), none, [], false⟩,
          ⟨(some 7), .mv (.t 67), none, [], false⟩])
        (.ret)))))
/-- skyway/wire.Decode -/
def c21 : CF where
  np := 1
  nt := 103
  res := [.cn 3 2, .t 3, .t 4]
  code := .seq (.reg [
      ⟨(some 2), .new [.int .i64 0, .int .i64 0, .sl true 0 0 0 0 0], none, [], false⟩,
      ⟨(some 3), .mv (.k (.int .i64 0)), none, [], false⟩,
      ⟨(some 4), .mv (.k (.int .i64 0)), none, [], false⟩])
    (.seq (.seq (.reg [
        ⟨(some 11), .mv (.t 0), none, [], false⟩,
        ⟨(some 12), .lenv true (.t 11), none, [], false⟩,
        ⟨(some 13), .bin .lss (.t 12) (.k (.int .i64 9)), none, [], false⟩,
        ⟨(some 14), .mv (.t 13), none, [], false⟩,
        ⟨(some 15), .mv (.t 0), (some (14, false)), [], false⟩,
        ⟨(some 16), .sls (.t 15) none (some (.k (.int .i64 2))), (some (14, false)), [], false⟩,
        ⟨(some 17), .bin .neq (.t 16) (.k (.str ⟨#[83, 87]⟩)), (some (14, false)), [], false⟩,
        ⟨(some 18), .pick (.t 14) (.k (.bool true)) (.t 17), none, [], false⟩])
      (.cond (.t 18) (.seq (.seq (.reg [
           ⟨(some 19), .mv (.t 0), none, [], false⟩,
           ⟨(some 20), .lenv true (.t 19), none, [], false⟩,
           ⟨(some 21), .bin .geq (.t 20) (.k (.int .i64 2)), none, [], false⟩,
           ⟨(some 22), .mv (.t 21), none, [], false⟩,
           ⟨(some 23), .mv (.t 0), (some (22, true)), [], false⟩,
           ⟨(some 24), .sls (.t 23) none (some (.k (.int .i64 2))), (some (22, true)), [], false⟩,
           ⟨(some 25), .bin .neq (.t 24) (.k (.str ⟨#[83, 87]⟩)), (some (22, true)), [], false⟩,
           ⟨(some 26), .pick (.t 22) (.t 25) (.k (.bool false)), none, [], false⟩,
           ⟨(some 27), .mv (.t 26), none, [], false⟩,
           ⟨(some 28), .mv (.t 0), (some (27, false)), [], false⟩,
           ⟨(some 29), .lenv true (.t 28), (some (27, false)), [], false⟩,
           ⟨(some 30), .bin .eql (.t 29) (.k (.int .i64 1)), (some (27, false)), [], false⟩,
           ⟨(some 31), .mv (.t 30), (some (27, false)), [], false⟩,
           ⟨(some 32), .mv (.t 0), (some (31, true)), [], false⟩,
           ⟨(some 33), .ixs (.t 32) (.k (.int .i64 0)), (some (31, true)), [], false⟩,
           ⟨(some 34), .ixs (.k (.str ⟨#[83, 87]⟩)) (.k (.int .i64 0)), (some (31, true)), [], false⟩,
           ⟨(some 35), .bin .neq (.t 33) (.t 34), (some (31, true)), [], false⟩,
           ⟨(some 36), .pick (.t 31) (.t 35) (.k (.bool false)), (some (27, false)), [], false⟩,
           ⟨(some 37), .pick (.t 27) (.k (.bool true)) (.t 36), none, [], false⟩])
         (.cond (.t 37) (.seq (.reg [
             ⟨(some 38), .mk [.int .i64 0, .int .i64 0, .sl true 0 0 0 0 0] [], none, [], false⟩,
             ⟨none, .st 3 (.t 2) (.t 38), none, [], false⟩,
             ⟨(some 3), .mv (.k (.int .i64 0)), none, [], false⟩,
             ⟨(some 4), .mv (.k (.int .i64 3)), none, [], false⟩])
           (.ret))
          (.skip)))
        (.seq (.reg [
           ⟨(some 39), .mk [.int .i64 0, .int .i64 0, .sl true 0 0 0 0 0] [], none, [], false⟩,
           ⟨none, .st 3 (.t 2) (.t 39), none, [], false⟩,
           ⟨(some 3), .mv (.k (.int .i64 0)), none, [], false⟩,
           ⟨(some 4), .mv (.k (.int .i64 8)), none, [], false⟩])
         (.ret)))
       (.skip)))
     (.seq (.reg [
        ⟨(some 40), .mv (.t 0), none, [], false⟩,
        ⟨(some 41), .call (.k (.fn 56 [])) [(.t 40), (.k (.int .i64 2)), (.k (.int .i64 1))], none, [], false⟩,
        ⟨(some 42), .cvi .i64 (.t 41), none, [], false⟩,
        ⟨(some 43), .mv (.t 0), none, [], false⟩,
        ⟨(some 44), .call (.k (.fn 56 [])) [(.t 43), (.k (.int .i64 3)), (.k (.int .i64 4))], none, [], false⟩,
        ⟨(some 45), .cvi .i64 (.t 44), none, [], false⟩,
        ⟨(some 46), .mk [.int .i64 0, .int .i64 0, .sl true 0 0 0 0 0] [(0, 1, (.t 42)), (1, 1, (.t 45))], none, [], false⟩,
        ⟨(some 5), .new [.int .i64 0, .int .i64 0, .sl true 0 0 0 0 0], none, [], false⟩,
        ⟨none, .st 3 (.t 5) (.t 46), none, [], false⟩])
      (.seq (.reg [
         ⟨(some 47), .mv (.t 0), none, [], false⟩,
         ⟨(some 48), .call (.k (.fn 56 [])) [(.t 47), (.k (.int .i64 7)), (.k (.int .i64 2))], none, [], false⟩,
         ⟨(some 49), .cvi .i64 (.t 48), none, [], false⟩,
         ⟨(some 6), .mv (.t 49), none, [], false⟩])
       (.seq (.seq (.reg [
           ⟨(some 50), .fad 1 (.t 5), none, [], false⟩,
           ⟨(some 51), .ld1 (.t 50), none, [], false⟩,
           ⟨(some 52), .bin .gtr (.t 51) (.k (.int .i64 200000)), none, [], false⟩,
           ⟨(some 53), .mv (.t 52), none, [], false⟩,
           ⟨(some 54), .mv (.t 6), (some (53, false)), [], false⟩,
           ⟨(some 55), .bin .gtr (.t 54) (.k (.int .i64 32)), (some (53, false)), [], false⟩,
           ⟨(some 56), .pick (.t 53) (.k (.bool true)) (.t 55), none, [], false⟩])
         (.cond (.t 56) (.seq (.reg [
             ⟨(some 57), .mk [.int .i64 0, .int .i64 0, .sl true 0 0 0 0 0] [], none, [], false⟩,
             ⟨none, .st 3 (.t 2) (.t 57), none, [], false⟩,
             ⟨(some 3), .mv (.k (.int .i64 0)), none, [], false⟩,
             ⟨(some 4), .mv (.k (.int .i64 3)), none, [], false⟩])
           (.ret))
          (.skip)))
        (.seq (.reg [
           ⟨(some 58), .mv (.t 6), none, [], false⟩,
           ⟨(some 59), .bin .mul (.t 58) (.k (.int .i64 16)), none, [], false⟩,
           ⟨(some 60), .bin .add (.k (.int .i64 9)) (.t 59), none, [], false⟩,
           ⟨(some 7), .mv (.t 60), none, [], false⟩])
         (.seq (.seq (.reg [
             ⟨(some 61), .mv (.t 0), none, [], false⟩,
             ⟨(some 62), .lenv true (.t 61), none, [], false⟩,
             ⟨(some 63), .mv (.t 7), none, [], false⟩,
             ⟨(some 64), .bin .add (.t 63) (.k (.int .i64 2)), none, [], false⟩,
             ⟨(some 65), .bin .lss (.t 62) (.t 64), none, [], false⟩])
           (.cond (.t 65) (.seq (.reg [
               ⟨(some 66), .mk [.int .i64 0, .int .i64 0, .sl true 0 0 0 0 0] [], none, [], false⟩,
               ⟨none, .st 3 (.t 2) (.t 66), none, [], false⟩,
               ⟨(some 3), .mv (.k (.int .i64 0)), none, [], false⟩,
               ⟨(some 4), .mv (.k (.int .i64 8)), none, [], false⟩])
             (.ret))
            (.skip)))
          (.seq (.seq (.reg [
              ⟨(some 67), .mv (.t 0), none, [], false⟩,
              ⟨(some 68), .mv (.t 7), none, [], false⟩,
              ⟨(some 71), .mv (.t 0), none, [], false⟩,
              ⟨(some 72), .mv (.t 7), none, [], false⟩,
              ⟨(some 73), .sls (.t 71) none (some (.t 72)), none, [], false⟩,
              ⟨(some 69), .call (.k (.fn 56 [])) [(.t 67), (.t 68), (.k (.int .i64 2))], none, [], false⟩,
              ⟨(some 70), .cvi .i64 (.t 69), none, [], false⟩,
              ⟨(some 74), .call (.k (.fn 57 [])) [(.t 73)], none, [], false⟩,
              ⟨(some 75), .bin .neq (.t 70) (.t 74), none, [], false⟩])
            (.cond (.t 75) (.seq (.reg [
                ⟨(some 76), .mk [.int .i64 0, .int .i64 0, .sl true 0 0 0 0 0] [], none, [], false⟩,
                ⟨none, .st 3 (.t 2) (.t 76), none, [], false⟩,
                ⟨(some 3), .mv (.k (.int .i64 0)), none, [], false⟩,
                ⟨(some 4), .mv (.k (.int .i64 13)), none, [], false⟩])
              (.ret))
             (.skip)))
           (.seq (.seq (.reg [
               ⟨(some 77), .mv (.t 6), none, [], false⟩,
               ⟨(some 78), .mv (.k (.int .i64 0)), none, [], false⟩])
             (.blk 0 (.loop (.seq (.reg [
                  ⟨(some 79), .bin .lss (.t 78) (.t 77), none, [], false⟩])
                (.seq (.cond (.t 79) (.skip)
                  (.exit 0))
                 (.seq (.blk 1 (.seq (.reg [
                      ⟨(some 80), .mv (.t 78), none, [], false⟩,
                      ⟨(some 8), .mv (.t 80), none, [], false⟩])
                    (.seq (.reg [
                       ⟨(some 82), .mv (.t 0), none, [], false⟩,
                       ⟨(some 83), .mv (.t 8), none, [], false⟩,
                       ⟨(some 84), .bin .mul (.t 83) (.k (.int .i64 16)), none, [], false⟩,
                       ⟨(some 85), .bin .add (.k (.int .i64 9)) (.t 84), none, [], false⟩,
                       ⟨(some 86), .ldn 3 (.t 5), none, [], false⟩,
                       ⟨(some 87), .call (.k (.fn 58 [])) [(.t 82), (.t 85), (.t 86)], none, [], false⟩,
                       ⟨(some 81), .mv (.t 87), none, [], false⟩,
                       ⟨(some 88), .ext (.t 81) 0, none, [], false⟩,
                       ⟨(some 89), .ext (.t 81) 1, none, [], false⟩,
                       ⟨(some 9), .new [.int .i64 0, .int .i64 0, .int .i64 0, .int .i64 0, .int .i64 0, .int .i64 0], none, [], false⟩,
                       ⟨none, .st 6 (.t 9) (.t 88), none, [], false⟩,
                       ⟨(some 10), .mv (.t 89), none, [], false⟩])
                     (.seq (.seq (.reg [
                         ⟨(some 90), .mv (.t 10), none, [], false⟩,
                         ⟨(some 91), .un .not (.t 90), none, [], false⟩])
                       (.cond (.t 91) (.seq (.reg [
                           ⟨(some 92), .mk [.int .i64 0, .int .i64 0, .sl true 0 0 0 0 0] [], none, [], false⟩,
                           ⟨none, .st 3 (.t 2) (.t 92), none, [], false⟩,
                           ⟨(some 3), .mv (.k (.int .i64 0)), none, [], false⟩,
                           ⟨(some 4), .mv (.k (.int .i64 3)), none, [], false⟩])
                         (.ret))
                        (.skip)))
                      (.reg [
                        ⟨(some 93), .fad 2 (.t 5), none, [], false⟩,
                        ⟨(some 94), .ld1 (.t 93), none, [], false⟩,
                        ⟨(some 95), .ldn 6 (.t 9), none, [], false⟩,
                        ⟨(some 96), .mks [.int .i64 0, .int .i64 0, .int .i64 0, .int .i64 0, .int .i64 0, .int .i64 0] 6 1 [(0, 6, (.t 95))], none, [], false⟩,
                        ⟨(some 97), .app 6 48 (.t 94) (.t 96), none, [], false⟩,
                        ⟨(some 98), .fad 2 (.t 5), none, [], false⟩,
                        ⟨none, .st 1 (.t 98) (.t 97), none, [], false⟩])))))
                  (.reg [
                    ⟨(some 99), .bin .add (.t 78) (.k (.int .i64 1)), none, [], false⟩,
                    ⟨(some 78), .mv (.t 99), none, [], false⟩])))))))
            (.seq (.reg [
               ⟨(some 100), .ldn 3 (.t 5), none, [], false⟩,
               ⟨(some 101), .mv (.t 7), none, [], false⟩,
               ⟨(some 102), .bin .add (.t 101) (.k (.int .i64 2)), none, [], false⟩,
               ⟨none, .st 3 (.t 2) (.t 100), none, [], false⟩,
               ⟨(some 3), .mv (.t 102), none, [], false⟩,
               ⟨(some 4), .mv (.k (.int .i64 0)), none, [], false⟩])
             (.ret))))))))))
/-- slices.IndexFunc[[]skyway/api.Errno,skyway/api.Errno] -/
def c111 : CF where
  np := 2
  nt := 19
  res := [.t 4]
  code := .seq (.reg [
      ⟨(some 4), .mv (.k (.int .i64 0)), none, [], false⟩])
    (.seq (.seq (.reg [
        ⟨(some 6), .mv (.t 0), none, [], false⟩,
        ⟨(some 7), .lenv false (.t 6), none, [], false⟩,
        ⟨(some 8), .mv (.k (.int .i64 0)), none, [], false⟩])
      (.blk 0 (.loop (.seq (.reg [
           ⟨(some 9), .bin .lss (.t 8) (.t 7), none, [], false⟩])
         (.seq (.cond (.t 9) (.skip)
           (.exit 0))
          (.seq (.blk 1 (.seq (.reg [
               ⟨(some 10), .mv (.t 8), none, [], false⟩,
               ⟨(some 5), .mv (.t 10), none, [], false⟩])
             (.seq (.reg [
                ⟨(some 11), .mv (.t 1), none, [], false⟩,
                ⟨(some 12), .mv (.t 0), none, [], false⟩,
                ⟨(some 13), .mv (.t 5), none, [], false⟩,
                ⟨(some 14), .iad 1 (.t 12) (.t 13), none, [], false⟩,
                ⟨(some 15), .ld1 (.t 14), none, [], false⟩,
                ⟨(some 16), .call (.t 11) [(.t 15)], none, [], false⟩])
              (.cond (.t 16) (.seq (.reg [
                  ⟨(some 17), .mv (.t 5), none, [], false⟩,
                  ⟨(some 4), .mv (.t 17), none, [], false⟩])
                (.ret))
               (.skip)))))
           (.reg [
             ⟨(some 18), .bin .add (.t 8) (.k (.int .i64 1)), none, [], false⟩,
             ⟨(some 8), .mv (.t 18), none, [], false⟩])))))))
     (.seq (.reg [
        ⟨(some 4), .mv (.k (.int .i64 (-1))), none, [], false⟩])
      (.ret)))
/-- slices.ContainsFunc[[]skyway/api.Errno,skyway/api.Errno] -/
def c80 : CF where
  np := 2
  nt := 9
  res := [.t 4]
  code := .seq (.reg [
      ⟨(some 4), .mv (.k (.bool false)), none, [], false⟩])
    (.seq (.reg [
       ⟨(some 5), .mv (.t 0), none, [], false⟩,
       ⟨(some 6), .mv (.t 1), none, [], false⟩,
       ⟨(some 7), .call (.k (.fn 111 [])) [(.t 5), (.t 6)], none, [], false⟩,
       ⟨(some 8), .bin .geq (.t 7) (.k (.int .i64 0)), none, [], false⟩,
       ⟨(some 4), .mv (.t 8), none, [], false⟩])
     (.ret))
/-- skyway/skywaykeep2.fine$1 -/
def c81 : CF where
  np := 1
  nt := 5
  res := [.t 2]
  code := .seq (.reg [
      ⟨(some 2), .mv (.k (.bool false)), none, [], false⟩])
    (.seq (.reg [
       ⟨(some 3), .mv (.t 0), none, [], false⟩,
       ⟨(some 4), .bin .neq (.t 3) (.k (.int .i64 0)), none, [], false⟩,
       ⟨(some 2), .mv (.t 4), none, [], false⟩])
     (.ret))
/-- skyway/skywaykeep2.fine -/
def c39 : CF where
  np := 1
  nt := 6
  res := [.t 2]
  code := .seq (.reg [
      ⟨(some 2), .mv (.k (.bool false)), none, [], false⟩])
    (.seq (.reg [
       ⟨(some 3), .mv (.t 0), none, [], false⟩,
       ⟨(some 4), .call (.k (.fn 80 [])) [(.t 3), (.k (.fn 81 []))], none, [], false⟩,
       ⟨(some 5), .un .not (.t 4), none, [], false⟩,
       ⟨(some 2), .mv (.t 5), none, [], false⟩])
     (.ret))
/-- skyway/skywaykeep2.frames -/
def c20 : CF where
  np := 0
  nt := 30
  res := [.t 0]
  code := .seq (.reg [
      ⟨(some 0), .mv (.k (.bool false)), none, [], false⟩])
    (.seq (.reg [
       ⟨(some 7), .mk [.int .i64 0, .int .i64 0, .sl true 0 0 0 0 0] [(0, 1, (.k (.int .i64 3)))], none, [], false⟩,
       ⟨(some 8), .call (.k (.fn 22 [])) [(.t 7)], none, [], false⟩,
       ⟨(some 6), .mv (.t 8), none, [], false⟩,
       ⟨(some 9), .ext (.t 6) 0, none, [], false⟩,
       ⟨(some 10), .ext (.t 6) 1, none, [], false⟩,
       ⟨(some 1), .mv (.t 9), none, [], false⟩,
       ⟨(some 2), .mv (.t 10), none, [], false⟩])
     (.seq (.reg [
        ⟨(some 12), .mv (.t 1), none, [], false⟩,
        ⟨(some 13), .call (.k (.fn 21 [])) [(.t 12)], none, [], false⟩,
        ⟨(some 11), .mv (.t 13), none, [], false⟩,
        ⟨(some 14), .ext (.t 11) 0, none, [], false⟩,
        ⟨(some 15), .ext (.t 11) 1, none, [], false⟩,
        ⟨(some 16), .ext (.t 11) 2, none, [], false⟩,
        ⟨(some 3), .new [.int .i64 0, .int .i64 0, .sl true 0 0 0 0 0], none, [], false⟩,
        ⟨none, .st 3 (.t 3) (.t 14), none, [], false⟩,
        ⟨(some 4), .mv (.t 15), none, [], false⟩,
        ⟨(some 5), .mv (.t 16), none, [], false⟩])
      (.seq (.reg [
         ⟨(some 17), .mv (.t 2), none, [], false⟩,
         ⟨(some 18), .mv (.t 5), none, [], false⟩,
         ⟨(some 19), .mks [.int .i64 0, .int .i64 0] 1 2 [(0, 1, (.t 17)), (1, 1, (.t 18))], none, [], false⟩,
         ⟨(some 20), .call (.k (.fn 39 [])) [(.t 19)], none, [], false⟩,
         ⟨(some 21), .mv (.t 20), none, [], false⟩,
         ⟨(some 22), .mv (.t 4), (some (21, true)), [], false⟩,
         ⟨(some 23), .bin .eql (.t 22) (.k (.int .i64 11)), (some (21, true)), [], false⟩,
         ⟨(some 24), .pick (.t 21) (.t 23) (.k (.bool false)), none, [], false⟩,
         ⟨(some 25), .mv (.t 24), none, [], false⟩,
         ⟨(some 26), .fad 0 (.t 3), (some (25, true)), [], false⟩,
         ⟨(some 27), .ld1 (.t 26), (some (25, true)), [], false⟩,
         ⟨(some 28), .bin .eql (.t 27) (.k (.int .i64 3)), (some (25, true)), [], false⟩,
         ⟨(some 29), .pick (.t 25) (.t 28) (.k (.bool false)), none, [], false⟩,
         ⟨(some 0), .mv (.t 29), none, [], false⟩])
       (.ret))))
/-- skyway/skywaykeep2.WireUnique -/
def c5 : CF where
  np := 1
  nt := 46
  res := [.t 2]
  code := .seq (.reg [
      ⟨(some 2), .mv (.k (.bool false)), none, [], false⟩])
    (.seq (.seq (.reg [
        ⟨(some 8), .call (.k (.fn 20 [])) [], none, [], false⟩,
        ⟨(some 9), .un .not (.t 8), none, [], false⟩])
      (.cond (.t 9) (.seq (.reg [
          ⟨(some 2), .mv (.k (.bool false)), none, [], false⟩])
        (.ret))
       (.skip)))
     (.seq (.reg [
        ⟨(some 11), .mv (.t 0), none, [], false⟩,
        ⟨(some 12), .call (.k (.fn 21 [])) [(.t 11)], none, [], false⟩,
        ⟨(some 10), .mv (.t 12), none, [], false⟩,
        ⟨(some 13), .ext (.t 10) 0, none, [], false⟩,
        ⟨(some 14), .ext (.t 10) 1, none, [], false⟩,
        ⟨(some 15), .ext (.t 10) 2, none, [], false⟩,
        ⟨(some 3), .new [.int .i64 0, .int .i64 0, .sl true 0 0 0 0 0], none, [], false⟩,
        ⟨none, .st 3 (.t 3) (.t 13), none, [], false⟩,
        ⟨(some 4), .mv (.t 14), none, [], false⟩,
        ⟨(some 5), .mv (.t 15), none, [], false⟩])
      (.seq (.seq (.reg [
          ⟨(some 16), .mv (.t 5), none, [], false⟩,
          ⟨(some 17), .bin .neq (.t 16) (.k (.int .i64 0)), none, [], false⟩])
        (.cond (.t 17) (.seq (.reg [
            ⟨(some 18), .mv (.t 4), none, [], false⟩,
            ⟨(some 19), .bin .eql (.t 18) (.k (.int .i64 0)), none, [], false⟩,
            ⟨(some 20), .mv (.t 19), none, [], false⟩,
            ⟨(some 21), .fad 2 (.t 3), (some (20, true)), [], false⟩,
            ⟨(some 22), .ld1 (.t 21), (some (20, true)), [], false⟩,
            ⟨(some 23), .lenv false (.t 22), (some (20, true)), [], false⟩,
            ⟨(some 24), .bin .eql (.t 23) (.k (.int .i64 0)), (some (20, true)), [], false⟩,
            ⟨(some 25), .pick (.t 20) (.t 24) (.k (.bool false)), none, [], false⟩,
            ⟨(some 2), .mv (.t 25), none, [], false⟩])
          (.ret))
         (.skip)))
       (.seq (.reg [
          ⟨(some 27), .ldn 3 (.t 3), none, [], false⟩,
          ⟨(some 28), .call (.k (.fn 22 [])) [(.t 27)], none, [], false⟩,
          ⟨(some 26), .mv (.t 28), none, [], false⟩,
          ⟨(some 29), .ext (.t 26) 0, none, [], false⟩,
          ⟨(some 30), .ext (.t 26) 1, none, [], false⟩,
          ⟨(some 6), .mv (.t 29), none, [], false⟩,
          ⟨(some 7), .mv (.t 30), none, [], false⟩])
        (.seq (.reg [
           ⟨(some 31), .mv (.t 7), none, [], false⟩,
           ⟨(some 32), .bin .eql (.t 31) (.k (.int .i64 0)), none, [], false⟩,
           ⟨(some 33), .mv (.t 32), none, [], false⟩,
           ⟨(some 34), .mv (.t 4), (some (33, true)), [], false⟩,
           ⟨(some 35), .mv (.t 0), (some (33, true)), [], false⟩,
           ⟨(some 36), .lenv true (.t 35), (some (33, true)), [], false⟩,
           ⟨(some 37), .bin .leq (.t 34) (.t 36), (some (33, true)), [], false⟩,
           ⟨(some 38), .pick (.t 33) (.t 37) (.k (.bool false)), none, [], false⟩,
           ⟨(some 39), .mv (.t 38), none, [], false⟩,
           ⟨(some 40), .mv (.t 6), (some (39, true)), [], false⟩,
           ⟨(some 41), .mv (.t 0), (some (39, true)), [], false⟩,
           ⟨(some 42), .mv (.t 4), (some (39, true)), [], false⟩,
           ⟨(some 43), .sls (.t 41) none (some (.t 42)), (some (39, true)), [], false⟩,
           ⟨(some 44), .bin .eql (.t 40) (.t 43), (some (39, true)), [], false⟩,
           ⟨(some 45), .pick (.t 39) (.t 44) (.k (.bool false)), none, [], false⟩,
           ⟨(some 2), .mv (.t 45), none, [], false⟩])
         (.ret))))))
/-- skyway/skywaykeep2.within -/
def c23 : CF where
  np := 3
  nt := 21
  res := [.t 6]
  code := .seq (.reg [
      ⟨(some 6), .mv (.k (.int .i64 0)), none, [], false⟩])
    (.seq (.reg [
       ⟨(some 8), .mv (.t 2), none, [], false⟩,
       ⟨(some 9), .mv (.t 1), none, [], false⟩,
       ⟨(some 10), .bin .sub (.t 8) (.t 9), none, [], false⟩,
       ⟨(some 11), .bin .add (.t 10) (.k (.int .i64 1)), none, [], false⟩,
       ⟨(some 7), .mv (.t 11), none, [], false⟩])
     (.seq (.reg [
        ⟨(some 12), .mv (.t 1), none, [], false⟩,
        ⟨(some 13), .mv (.t 0), none, [], false⟩,
        ⟨(some 14), .mv (.t 7), none, [], false⟩,
        ⟨(some 15), .bin .rem (.t 13) (.t 14), none, [], false⟩,
        ⟨(some 16), .mv (.t 7), none, [], false⟩,
        ⟨(some 17), .bin .add (.t 15) (.t 16), none, [], false⟩,
        ⟨(some 18), .mv (.t 7), none, [], false⟩,
        ⟨(some 19), .bin .rem (.t 17) (.t 18), none, [], false⟩,
        ⟨(some 20), .bin .add (.t 12) (.t 19), none, [], false⟩,
        ⟨(some 6), .mv (.t 20), none, [], false⟩])
      (.ret)))
/-- skyway/skywaykeep2.WireDamage -/
def c6 : CF where
  np := 3
  nt := 70
  res := [.t 6]
  code := .seq (.reg [
      ⟨(some 3), .box (.t 0), none, [], false⟩,
      ⟨(some 6), .mv (.k (.bool false)), none, [], false⟩])
    (.seq (.seq (.reg [
        ⟨(some 13), .call (.k (.fn 20 [])) [], none, [], false⟩,
        ⟨(some 14), .un .not (.t 13), none, [], false⟩])
      (.cond (.t 14) (.seq (.reg [
          ⟨(some 6), .mv (.k (.bool false)), none, [], false⟩])
        (.ret))
       (.skip)))
     (.seq (.reg [
        ⟨(some 16), .ldn 3 (.t 3), none, [], false⟩,
        ⟨(some 17), .call (.k (.fn 22 [])) [(.t 16)], none, [], false⟩,
        ⟨(some 15), .mv (.t 17), none, [], false⟩,
        ⟨(some 18), .ext (.t 15) 0, none, [], false⟩,
        ⟨(some 19), .ext (.t 15) 1, none, [], false⟩,
        ⟨(some 7), .mv (.t 18), none, [], false⟩,
        ⟨(some 8), .mv (.t 19), none, [], false⟩])
      (.seq (.seq (.reg [
          ⟨(some 20), .mv (.t 8), none, [], false⟩,
          ⟨(some 21), .bin .neq (.t 20) (.k (.int .i64 0)), none, [], false⟩])
        (.cond (.t 21) (.seq (.reg [
            ⟨(some 6), .mv (.k (.bool true)), none, [], false⟩])
          (.ret))
         (.skip)))
       (.seq (.reg [
          ⟨(some 22), .mv (.t 1), none, [], false⟩,
          ⟨(some 23), .mv (.t 7), none, [], false⟩,
          ⟨(some 24), .lenv true (.t 23), none, [], false⟩,
          ⟨(some 25), .bin .sub (.t 24) (.k (.int .i64 5)), none, [], false⟩,
          ⟨(some 26), .call (.k (.fn 23 [])) [(.t 22), (.k (.int .i64 0)), (.t 25)], none, [], false⟩,
          ⟨(some 9), .mv (.t 26), none, [], false⟩])
        (.seq (.seq (.reg [
            ⟨(some 27), .mv (.t 9), none, [], false⟩,
            ⟨(some 28), .bin .lss (.t 27) (.k (.int .i64 5)), none, [], false⟩])
          (.cond (.t 28) (.reg [
             ⟨(some 29), .mv (.t 9), none, [], false⟩,
             ⟨(some 30), .bin .add (.t 29) (.k (.int .i64 2)), none, [], false⟩,
             ⟨(some 9), .mv (.t 30), none, [], false⟩])
           (.reg [
             ⟨(some 31), .mv (.t 9), none, [], false⟩,
             ⟨(some 32), .bin .add (.t 31) (.k (.int .i64 4)), none, [], false⟩,
             ⟨(some 9), .mv (.t 32), none, [], false⟩])))
         (.seq (.seq (.reg [
             ⟨(some 33), .mv (.t 7), none, [], false⟩,
             ⟨(some 34), .mv (.t 9), none, [], false⟩,
             ⟨(some 35), .ixs (.t 33) (.t 34), none, [], false⟩,
             ⟨(some 36), .mv (.t 2), none, [], false⟩,
             ⟨(some 37), .bin .eql (.t 35) (.t 36), none, [], false⟩,
             ⟨(some 38), .mv (.t 37), none, [], false⟩,
             ⟨(some 39), .mv (.t 7), (some (38, false)), [], false⟩,
             ⟨(some 40), .mv (.t 9), (some (38, false)), [], false⟩,
             ⟨(some 41), .ixs (.t 39) (.t 40), (some (38, false)), [], false⟩,
             ⟨(some 42), .bin .rem (.t 41) (.k (.int .u8 255)), (some (38, false)), [], false⟩,
             ⟨(some 43), .mv (.t 2), (some (38, false)), [], false⟩,
             ⟨(some 44), .bin .rem (.t 43) (.k (.int .u8 255)), (some (38, false)), [], false⟩,
             ⟨(some 45), .bin .eql (.t 42) (.t 44), (some (38, false)), [], false⟩,
             ⟨(some 46), .pick (.t 38) (.k (.bool true)) (.t 45), none, [], false⟩])
           (.cond (.t 46) (.seq (.reg [
               ⟨(some 6), .mv (.k (.bool true)), none, [], false⟩])
             (.ret))
            (.skip)))
          (.seq (.reg [
             ⟨(some 48), .mv (.t 7), none, [], false⟩,
             ⟨(some 49), .mv (.t 9), none, [], false⟩,
             ⟨(some 50), .sls (.t 48) none (some (.t 49)), none, [], false⟩,
             ⟨(some 51), .mv (.t 2), none, [], false⟩,
             ⟨(some 52), .mks [.int .u8 0] 1 1 [(0, 1, (.t 51))], none, [], false⟩,
             ⟨(some 55), .mv (.t 7), none, [], false⟩,
             ⟨(some 56), .mv (.t 9), none, [], false⟩,
             ⟨(some 57), .bin .add (.t 56) (.k (.int .i64 1)), none, [], false⟩,
             ⟨(some 58), .sls (.t 55) (some (.t 57)) none, none, [], false⟩,
             ⟨(some 10), .new [.int .i64 0, .int .i64 0, .sl true 0 0 0 0 0], none, [], false⟩,
             ⟨(some 53), .cbs (.t 52), none, [], false⟩,
             ⟨(some 54), .bin .add (.t 50) (.t 53), none, [], false⟩,
             ⟨(some 59), .bin .add (.t 54) (.t 58), none, [], false⟩,
             ⟨(some 60), .call (.k (.fn 21 [])) [(.t 59)], none, [], false⟩,
             ⟨(some 47), .mv (.t 60), none, [], false⟩,
             ⟨(some 61), .ext (.t 47) 0, none, [], false⟩,
             ⟨(some 62), .ext (.t 47) 1, none, [], false⟩,
             ⟨(some 63), .ext (.t 47) 2, none, [], false⟩,
             ⟨none, .st 3 (.t 10) (.t 61), none, [], false⟩,
             ⟨(some 11), .mv (.t 62), none, [], false⟩,
             ⟨(some 12), .mv (.t 63), none, [], false⟩])
           (.seq (.reg [
              ⟨(some 64), .mv (.t 12), none, [], false⟩,
              ⟨(some 65), .bin .neq (.t 64) (.k (.int .i64 0)), none, [], false⟩,
              ⟨(some 66), .mv (.t 65), none, [], false⟩,
              ⟨(some 67), .mv (.t 11), (some (66, true)), [], false⟩,
              ⟨(some 68), .bin .eql (.t 67) (.k (.int .i64 0)), (some (66, true)), [], false⟩,
              ⟨(some 69), .pick (.t 66) (.t 68) (.k (.bool false)), none, [], false⟩,
              ⟨(some 6), .mv (.t 69), none, [], false⟩])
            (.ret)))))))))
/-- slices.Equal[[]skyway/api.Plot,skyway/api.Plot] -/
def c44 : CF where
  np := 2
  nt := 26
  res := [.t 4]
  code := .seq (.reg [
      ⟨(some 4), .mv (.k (.bool false)), none, [], false⟩])
    (.seq (.seq (.reg [
        ⟨(some 6), .mv (.t 0), none, [], false⟩,
        ⟨(some 7), .lenv false (.t 6), none, [], false⟩,
        ⟨(some 8), .mv (.t 1), none, [], false⟩,
        ⟨(some 9), .lenv false (.t 8), none, [], false⟩,
        ⟨(some 10), .bin .neq (.t 7) (.t 9), none, [], false⟩])
      (.cond (.t 10) (.seq (.reg [
          ⟨(some 4), .mv (.k (.bool false)), none, [], false⟩])
        (.ret))
       (.skip)))
     (.seq (.seq (.reg [
         ⟨(some 11), .mv (.t 0), none, [], false⟩,
         ⟨(some 12), .lenv false (.t 11), none, [], false⟩,
         ⟨(some 13), .mv (.k (.int .i64 0)), none, [], false⟩])
       (.blk 0 (.loop (.seq (.reg [
            ⟨(some 14), .bin .lss (.t 13) (.t 12), none, [], false⟩])
          (.seq (.cond (.t 14) (.skip)
            (.exit 0))
           (.seq (.blk 1 (.seq (.reg [
                ⟨(some 15), .mv (.t 13), none, [], false⟩,
                ⟨(some 5), .mv (.t 15), none, [], false⟩])
              (.seq (.reg [
                 ⟨(some 16), .mv (.t 0), none, [], false⟩,
                 ⟨(some 17), .mv (.t 5), none, [], false⟩,
                 ⟨(some 18), .iad 6 (.t 16) (.t 17), none, [], false⟩,
                 ⟨(some 19), .ldn 6 (.t 18), none, [], false⟩,
                 ⟨(some 20), .mv (.t 1), none, [], false⟩,
                 ⟨(some 21), .mv (.t 5), none, [], false⟩,
                 ⟨(some 22), .iad 6 (.t 20) (.t 21), none, [], false⟩,
                 ⟨(some 23), .ldn 6 (.t 22), none, [], false⟩,
                 ⟨(some 24), .eqs true (some [.i, .i, .i, .i, .i, .i]) (.t 19) (.t 23), none, [], false⟩])
               (.cond (.t 24) (.seq (.reg [
                   ⟨(some 4), .mv (.k (.bool false)), none, [], false⟩])
                 (.ret))
                (.skip)))))
            (.reg [
              ⟨(some 25), .bin .add (.t 13) (.k (.int .i64 1)), none, [], false⟩,
              ⟨(some 13), .mv (.t 25), none, [], false⟩])))))))
      (.seq (.reg [
         ⟨(some 4), .mv (.k (.bool true)), none, [], false⟩])
       (.ret))))
/-- skyway/skywaykeep2.sameFrame -/
def c24 : CF where
  np := 2
  nt := 24
  res := [.t 4]
  code := .seq (.reg [
      ⟨(some 2), .box (.t 0), none, [], false⟩,
      ⟨(some 3), .box (.t 1), none, [], false⟩,
      ⟨(some 4), .mv (.k (.bool false)), none, [], false⟩])
    (.seq (.reg [
       ⟨(some 5), .fad 0 (.t 2), none, [], false⟩,
       ⟨(some 6), .ld1 (.t 5), none, [], false⟩,
       ⟨(some 7), .fad 0 (.t 3), none, [], false⟩,
       ⟨(some 8), .ld1 (.t 7), none, [], false⟩,
       ⟨(some 9), .bin .eql (.t 6) (.t 8), none, [], false⟩,
       ⟨(some 10), .mv (.t 9), none, [], false⟩,
       ⟨(some 11), .fad 1 (.t 2), (some (10, true)), [], false⟩,
       ⟨(some 12), .ld1 (.t 11), (some (10, true)), [], false⟩,
       ⟨(some 13), .fad 1 (.t 3), (some (10, true)), [], false⟩,
       ⟨(some 14), .ld1 (.t 13), (some (10, true)), [], false⟩,
       ⟨(some 15), .bin .eql (.t 12) (.t 14), (some (10, true)), [], false⟩,
       ⟨(some 16), .pick (.t 10) (.t 15) (.k (.bool false)), none, [], false⟩,
       ⟨(some 17), .mv (.t 16), none, [], false⟩,
       ⟨(some 18), .fad 2 (.t 2), (some (17, true)), [], false⟩,
       ⟨(some 19), .ld1 (.t 18), (some (17, true)), [], false⟩,
       ⟨(some 20), .fad 2 (.t 3), (some (17, true)), [], false⟩,
       ⟨(some 21), .ld1 (.t 20), (some (17, true)), [], false⟩,
       ⟨(some 22), .call (.k (.fn 44 [])) [(.t 19), (.t 21)], (some (17, true)), [], false⟩,
       ⟨(some 23), .pick (.t 17) (.t 22) (.k (.bool false)), none, [], false⟩,
       ⟨(some 4), .mv (.t 23), none, [], false⟩])
     (.ret))
/-- skyway/skywaykeep2.WireBack -/
def c7 : CF where
  np := 3
  nt := 63
  res := [.t 6]
  code := .seq (.reg [
      ⟨(some 3), .box (.t 0), none, [], false⟩,
      ⟨(some 6), .mv (.k (.bool false)), none, [], false⟩])
    (.seq (.seq (.reg [
        ⟨(some 15), .call (.k (.fn 20 [])) [], none, [], false⟩,
        ⟨(some 16), .un .not (.t 15), none, [], false⟩])
      (.cond (.t 16) (.seq (.reg [
          ⟨(some 6), .mv (.k (.bool false)), none, [], false⟩])
        (.ret))
       (.skip)))
     (.seq (.reg [
        ⟨(some 18), .ldn 3 (.t 3), none, [], false⟩,
        ⟨(some 19), .call (.k (.fn 22 [])) [(.t 18)], none, [], false⟩,
        ⟨(some 17), .mv (.t 19), none, [], false⟩,
        ⟨(some 20), .ext (.t 17) 0, none, [], false⟩,
        ⟨(some 21), .ext (.t 17) 1, none, [], false⟩,
        ⟨(some 7), .mv (.t 20), none, [], false⟩,
        ⟨(some 8), .mv (.t 21), none, [], false⟩])
      (.seq (.seq (.reg [
          ⟨(some 22), .mv (.t 8), none, [], false⟩,
          ⟨(some 23), .bin .neq (.t 22) (.k (.int .i64 0)), none, [], false⟩])
        (.cond (.t 23) (.seq (.reg [
            ⟨(some 24), .mv (.t 7), none, [], false⟩,
            ⟨(some 25), .bin .eql (.t 24) (.k (.str ⟨#[]⟩)), none, [], false⟩,
            ⟨(some 6), .mv (.t 25), none, [], false⟩])
          (.ret))
         (.skip)))
       (.seq (.reg [
          ⟨(some 27), .mv (.t 7), none, [], false⟩,
          ⟨(some 28), .mv (.t 1), none, [], false⟩,
          ⟨(some 29), .bin .add (.t 27) (.t 28), none, [], false⟩,
          ⟨(some 30), .call (.k (.fn 21 [])) [(.t 29)], none, [], false⟩,
          ⟨(some 26), .mv (.t 30), none, [], false⟩,
          ⟨(some 31), .ext (.t 26) 0, none, [], false⟩,
          ⟨(some 32), .ext (.t 26) 1, none, [], false⟩,
          ⟨(some 33), .ext (.t 26) 2, none, [], false⟩,
          ⟨(some 9), .new [.int .i64 0, .int .i64 0, .sl true 0 0 0 0 0], none, [], false⟩,
          ⟨none, .st 3 (.t 9) (.t 31), none, [], false⟩,
          ⟨(some 10), .mv (.t 32), none, [], false⟩,
          ⟨(some 11), .mv (.t 33), none, [], false⟩])
        (.seq (.reg [
           ⟨(some 35), .mv (.t 7), none, [], false⟩,
           ⟨(some 36), .mv (.t 2), none, [], false⟩,
           ⟨(some 37), .mv (.t 7), none, [], false⟩,
           ⟨(some 38), .lenv true (.t 37), none, [], false⟩,
           ⟨(some 39), .bin .sub (.t 38) (.k (.int .i64 1)), none, [], false⟩,
           ⟨(some 40), .call (.k (.fn 23 [])) [(.t 36), (.k (.int .i64 0)), (.t 39)], none, [], false⟩,
           ⟨(some 41), .sls (.t 35) none (some (.t 40)), none, [], false⟩,
           ⟨(some 42), .call (.k (.fn 21 [])) [(.t 41)], none, [], false⟩,
           ⟨(some 34), .mv (.t 42), none, [], false⟩,
           ⟨(some 43), .ext (.t 34) 0, none, [], false⟩,
           ⟨(some 44), .ext (.t 34) 1, none, [], false⟩,
           ⟨(some 45), .ext (.t 34) 2, none, [], false⟩,
           ⟨(some 12), .new [.int .i64 0, .int .i64 0, .sl true 0 0 0 0 0], none, [], false⟩,
           ⟨none, .st 3 (.t 12) (.t 43), none, [], false⟩,
           ⟨(some 13), .mv (.t 44), none, [], false⟩,
           ⟨(some 14), .mv (.t 45), none, [], false⟩])
         (.seq (.reg [
            ⟨(some 46), .mv (.t 11), none, [], false⟩,
            ⟨(some 47), .bin .eql (.t 46) (.k (.int .i64 0)), none, [], false⟩,
            ⟨(some 48), .mv (.t 47), none, [], false⟩,
            ⟨(some 49), .mv (.t 10), (some (48, true)), [], false⟩,
            ⟨(some 50), .mv (.t 7), (some (48, true)), [], false⟩,
            ⟨(some 51), .lenv true (.t 50), (some (48, true)), [], false⟩,
            ⟨(some 52), .bin .eql (.t 49) (.t 51), (some (48, true)), [], false⟩,
            ⟨(some 53), .pick (.t 48) (.t 52) (.k (.bool false)), none, [], false⟩,
            ⟨(some 54), .mv (.t 53), none, [], false⟩,
            ⟨(some 55), .ldn 3 (.t 3), (some (54, true)), [], false⟩,
            ⟨(some 56), .ldn 3 (.t 9), (some (54, true)), [], false⟩,
            ⟨(some 57), .call (.k (.fn 24 [])) [(.t 55), (.t 56)], (some (54, true)), [], false⟩,
            ⟨(some 58), .pick (.t 54) (.t 57) (.k (.bool false)), none, [], false⟩,
            ⟨(some 59), .mv (.t 58), none, [], false⟩,
            ⟨(some 60), .mv (.t 14), (some (59, true)), [], false⟩,
            ⟨(some 61), .bin .eql (.t 60) (.k (.int .i64 8)), (some (59, true)), [], false⟩,
            ⟨(some 62), .pick (.t 59) (.t 61) (.k (.bool false)), none, [], false⟩,
            ⟨(some 6), .mv (.t 62), none, [], false⟩])
          (.ret)))))))
theorem ok98 : cFunc Try.prog Try.f98 = some c98 := by kernel_rfl
theorem ok59 : cFunc Try.prog Try.f59 = some c59 := by kernel_rfl
theorem ok60 : cFunc Try.prog Try.f60 = some c60 := by kernel_rfl
theorem ok119 : cFunc Try.prog Try.f119 = some c119 := by kernel_rfl
theorem ok166 : cFunc Try.prog Try.f166 = some c166 := by kernel_rfl
theorem ok142 : cFunc Try.prog Try.f142 = some c142 := by kernel_rfl
theorem ok143 : cFunc Try.prog Try.f143 = some c143 := by kernel_rfl
theorem ok144 : cFunc Try.prog Try.f144 = some c144 := by kernel_rfl
theorem ok145 : cFunc Try.prog Try.f145 = some c145 := by kernel_rfl
theorem ok146 : cFunc Try.prog Try.f146 = some c146 := by kernel_rfl
theorem ok120 : cFunc Try.prog Try.f120 = some c120 := by kernel_rfl
theorem ok100 : cFunc Try.prog Try.f100 = some c100 := by kernel_rfl
theorem ok61 : cFunc Try.prog Try.f61 = some c61 := by kernel_rfl
theorem ok57 : cFunc Try.prog Try.f57 = some c57 := by kernel_rfl
theorem ok22 : cFunc Try.prog Try.f22 = some c22 := by kernel_rfl
theorem ok56 : cFunc Try.prog Try.f56 = some c56 := by kernel_rfl
theorem ok116 : cFunc Try.prog Try.f116 = some c116 := by kernel_rfl
theorem ok117 : cFunc Try.prog Try.f117 = some c117 := by kernel_rfl
theorem ok118 : cFunc Try.prog Try.f118 = some c118 := by kernel_rfl
theorem ok97 : cFunc Try.prog Try.f97 = some c97 := by kernel_rfl
theorem ok58 : cFunc Try.prog Try.f58 = some c58 := by kernel_rfl
theorem ok21 : cFunc Try.prog Try.f21 = some c21 := by kernel_rfl
theorem ok111 : cFunc Try.prog Try.f111 = some c111 := by kernel_rfl
theorem ok80 : cFunc Try.prog Try.f80 = some c80 := by kernel_rfl
theorem ok81 : cFunc Try.prog Try.f81 = some c81 := by kernel_rfl
theorem ok39 : cFunc Try.prog Try.f39 = some c39 := by kernel_rfl
theorem ok20 : cFunc Try.prog Try.f20 = some c20 := by kernel_rfl
theorem ok5 : cFunc Try.prog Try.f5 = some c5 := by kernel_rfl
theorem ok23 : cFunc Try.prog Try.f23 = some c23 := by kernel_rfl
theorem ok6 : cFunc Try.prog Try.f6 = some c6 := by kernel_rfl
theorem ok44 : cFunc Try.prog Try.f44 = some c44 := by kernel_rfl
theorem ok24 : cFunc Try.prog Try.f24 = some c24 := by kernel_rfl
theorem ok7 : cFunc Try.prog Try.f7 = some c7 := by kernel_rfl
end Go.Proofs.Ytaekgifbehoipaa.CodeAll
