/- The code of functions of the program, for the abstract machine; each is what the function is turned into. No condition. -/
import Derived.Test.YtpcmmbbkidojoaaEvaO
import Derived.Test.YtpcmmbbkidojoaaChecked
import Derived.KernelRfl
namespace Go.Proofs.Ytpcmmbbkidojoaa.CodeAll
open Go Go.Proofs.Ytpcmmbbkidojoaa.Eva
/-- skyway/alert.Band -/
def c15 : CF where
  np := 2
  nt := 24
  res := [.t 4, .t 5]
  code := .seq (.reg [
      ⟨(some 4), .mv (.k (.int .i64 0)), none, [], false⟩,
      ⟨(some 5), .mv (.k (.int .i64 0)), none, [], false⟩])
    (.seq (.seq (.reg [
        ⟨(some 6), .mv (.t 0), none, [], false⟩,
        ⟨(some 7), .bin .lss (.t 6) (.k (.int .i64 0)), none, [], false⟩,
        ⟨(some 8), .mv (.t 7), none, [], false⟩,
        ⟨(some 9), .mv (.t 0), (some (8, false)), [], false⟩,
        ⟨(some 10), .bin .gtr (.t 9) (.k (.int .i64 600)), (some (8, false)), [], false⟩,
        ⟨(some 11), .pick (.t 8) (.k (.bool true)) (.t 10), none, [], false⟩,
        ⟨(some 12), .mv (.t 11), none, [], false⟩,
        ⟨(some 13), .mv (.t 1), (some (12, false)), [], false⟩,
        ⟨(some 14), .bin .lss (.t 13) (.k (.int .i64 0)), (some (12, false)), [], false⟩,
        ⟨(some 15), .pick (.t 12) (.k (.bool true)) (.t 14), none, [], false⟩,
        ⟨(some 16), .mv (.t 15), none, [], false⟩,
        ⟨(some 17), .mv (.t 1), (some (16, false)), [], false⟩,
        ⟨(some 18), .bin .gtr (.t 17) (.k (.int .i64 200)), (some (16, false)), [], false⟩,
        ⟨(some 19), .pick (.t 16) (.k (.bool true)) (.t 18), none, [], false⟩])
      (.cond (.t 19) (.seq (.reg [
          ⟨(some 4), .mv (.k (.int .i64 0)), none, [], false⟩,
          ⟨(some 5), .mv (.k (.int .i64 4)), none, [], false⟩])
        (.ret))
       (.skip)))
     (.seq (.reg [
        ⟨(some 20), .mv (.t 1), none, [], false⟩,
        ⟨(some 21), .mv (.t 0), none, [], false⟩,
        ⟨(some 22), .bin .mul (.t 20) (.t 21), none, [], false⟩,
        ⟨(some 23), .bin .add (.k (.int .i64 100)) (.t 22), none, [], false⟩,
        ⟨(some 4), .mv (.t 23), none, [], false⟩,
        ⟨(some 5), .mv (.k (.int .i64 0)), none, [], false⟩])
      (.ret)))
/-- slices.IndexFunc[[]skyway/api.Errno,skyway/api.Errno] -/
def c76 : CF where
  np := 2
  nt := 19
  res := [.t 4]
  code := .seq (.reg [
      ⟨(some 4), .mv (.k (.int .i64 0)), none, [], false⟩])
    (.seq (.seq (.reg [
        ⟨(some 6), .mv (.t 0), none, [], false⟩,
        ⟨(some 7), .lenv false (.t 6), none, [], false⟩,
        ⟨(some 8), .mv (.k (.int .i64 0)), none, [], false⟩])
      (.blk 0 (.loop (.seq (.reg [
           ⟨(some 9), .bin .lss (.t 8) (.t 7), none, [], false⟩])
         (.seq (.cond (.t 9) (.skip)
           (.exit 0))
          (.seq (.blk 1 (.seq (.reg [
               ⟨(some 10), .mv (.t 8), none, [], false⟩,
               ⟨(some 5), .mv (.t 10), none, [], false⟩])
             (.seq (.reg [
                ⟨(some 11), .mv (.t 1), none, [], false⟩,
                ⟨(some 12), .mv (.t 0), none, [], false⟩,
                ⟨(some 13), .mv (.t 5), none, [], false⟩,
                ⟨(some 14), .iad 1 (.t 12) (.t 13), none, [], false⟩,
                ⟨(some 15), .ld1 (.t 14), none, [], false⟩,
                ⟨(some 16), .call (.t 11) [(.t 15)], none, [], false⟩])
              (.cond (.t 16) (.seq (.reg [
                  ⟨(some 17), .mv (.t 5), none, [], false⟩,
                  ⟨(some 4), .mv (.t 17), none, [], false⟩])
                (.ret))
               (.skip)))))
           (.reg [
             ⟨(some 18), .bin .add (.t 8) (.k (.int .i64 1)), none, [], false⟩,
             ⟨(some 8), .mv (.t 18), none, [], false⟩])))))))
     (.seq (.reg [
        ⟨(some 4), .mv (.k (.int .i64 (-1))), none, [], false⟩])
      (.ret)))
/-- slices.ContainsFunc[[]skyway/api.Errno,skyway/api.Errno] -/
def c46 : CF where
  np := 2
  nt := 9
  res := [.t 4]
  code := .seq (.reg [
      ⟨(some 4), .mv (.k (.bool false)), none, [], false⟩])
    (.seq (.reg [
       ⟨(some 5), .mv (.t 0), none, [], false⟩,
       ⟨(some 6), .mv (.t 1), none, [], false⟩,
       ⟨(some 7), .call (.k (.fn 76 [])) [(.t 5), (.t 6)], none, [], false⟩,
       ⟨(some 8), .bin .geq (.t 7) (.k (.int .i64 0)), none, [], false⟩,
       ⟨(some 4), .mv (.t 8), none, [], false⟩])
     (.ret))
/-- skyway/skywaykeep2.fine$1 -/
def c47 : CF where
  np := 1
  nt := 5
  res := [.t 2]
  code := .seq (.reg [
      ⟨(some 2), .mv (.k (.bool false)), none, [], false⟩])
    (.seq (.reg [
       ⟨(some 3), .mv (.t 0), none, [], false⟩,
       ⟨(some 4), .bin .neq (.t 3) (.k (.int .i64 0)), none, [], false⟩,
       ⟨(some 2), .mv (.t 4), none, [], false⟩])
     (.ret))
/-- skyway/skywaykeep2.fine -/
def c16 : CF where
  np := 1
  nt := 6
  res := [.t 2]
  code := .seq (.reg [
      ⟨(some 2), .mv (.k (.bool false)), none, [], false⟩])
    (.seq (.reg [
       ⟨(some 3), .mv (.t 0), none, [], false⟩,
       ⟨(some 4), .call (.k (.fn 46 [])) [(.t 3), (.k (.fn 47 []))], none, [], false⟩,
       ⟨(some 5), .un .not (.t 4), none, [], false⟩,
       ⟨(some 2), .mv (.t 5), none, [], false⟩])
     (.ret))
/-- skyway/skywaykeep2.AlertBand -/
def c3 : CF where
  np := 2
  nt := 50
  res := [.t 4]
  code := .seq (.reg [
      ⟨(some 4), .mv (.k (.bool false)), none, [], false⟩])
    (.seq (.seq (.reg [
        ⟨(some 12), .call (.k (.fn 15 [])) [(.k (.int .i64 0)), (.k (.int .i64 5))], none, [], false⟩,
        ⟨(some 11), .mv (.t 12), none, [], false⟩,
        ⟨(some 13), .ext (.t 11) 0, none, [], false⟩,
        ⟨(some 14), .ext (.t 11) 1, none, [], false⟩,
        ⟨(some 5), .mv (.t 13), none, [], false⟩,
        ⟨(some 6), .mv (.t 14), none, [], false⟩])
      (.seq (.reg [
         ⟨(some 15), .mv (.t 6), none, [], false⟩,
         ⟨(some 16), .bin .neq (.t 15) (.k (.int .i64 0)), none, [], false⟩,
         ⟨(some 17), .mv (.t 16), none, [], false⟩,
         ⟨(some 18), .mv (.t 5), (some (17, false)), [], false⟩,
         ⟨(some 19), .bin .neq (.t 18) (.k (.int .i64 100)), (some (17, false)), [], false⟩,
         ⟨(some 20), .pick (.t 17) (.k (.bool true)) (.t 19), none, [], false⟩])
       (.cond (.t 20) (.seq (.reg [
           ⟨(some 4), .mv (.k (.bool false)), none, [], false⟩])
         (.ret))
        (.skip))))
     (.seq (.reg [
        ⟨(some 22), .mv (.t 0), none, [], false⟩,
        ⟨(some 23), .mv (.t 1), none, [], false⟩,
        ⟨(some 24), .call (.k (.fn 15 [])) [(.t 22), (.t 23)], none, [], false⟩,
        ⟨(some 21), .mv (.t 24), none, [], false⟩,
        ⟨(some 25), .ext (.t 21) 0, none, [], false⟩,
        ⟨(some 26), .ext (.t 21) 1, none, [], false⟩,
        ⟨(some 7), .mv (.t 25), none, [], false⟩,
        ⟨(some 8), .mv (.t 26), none, [], false⟩])
      (.seq (.reg [
         ⟨(some 28), .mv (.t 0), none, [], false⟩,
         ⟨(some 29), .bin .add (.t 28) (.k (.int .i64 1)), none, [], false⟩,
         ⟨(some 30), .mv (.t 1), none, [], false⟩,
         ⟨(some 31), .call (.k (.fn 15 [])) [(.t 29), (.t 30)], none, [], false⟩,
         ⟨(some 27), .mv (.t 31), none, [], false⟩,
         ⟨(some 32), .ext (.t 27) 0, none, [], false⟩,
         ⟨(some 33), .ext (.t 27) 1, none, [], false⟩,
         ⟨(some 9), .mv (.t 32), none, [], false⟩,
         ⟨(some 10), .mv (.t 33), none, [], false⟩])
       (.seq (.reg [
          ⟨(some 34), .mv (.t 8), none, [], false⟩,
          ⟨(some 35), .mv (.t 10), none, [], false⟩,
          ⟨(some 36), .mks [.int .i64 0, .int .i64 0] 1 2 [(0, 1, (.t 34)), (1, 1, (.t 35))], none, [], false⟩,
          ⟨(some 37), .call (.k (.fn 16 [])) [(.t 36)], none, [], false⟩,
          ⟨(some 38), .un .not (.t 37), none, [], false⟩,
          ⟨(some 39), .mv (.t 38), none, [], false⟩,
          ⟨(some 40), .mv (.t 9), (some (39, false)), [], false⟩,
          ⟨(some 41), .mv (.t 7), (some (39, false)), [], false⟩,
          ⟨(some 42), .bin .sub (.t 40) (.t 41), (some (39, false)), [], false⟩,
          ⟨(some 43), .mv (.t 1), (some (39, false)), [], false⟩,
          ⟨(some 44), .bin .eql (.t 42) (.t 43), (some (39, false)), [], false⟩,
          ⟨(some 45), .mv (.t 44), (some (39, false)), [], false⟩,
          ⟨(some 46), .mv (.t 7), (some (45, true)), [], false⟩,
          ⟨(some 47), .bin .geq (.t 46) (.k (.int .i64 100)), (some (45, true)), [], false⟩,
          ⟨(some 48), .pick (.t 45) (.t 47) (.k (.bool false)), (some (39, false)), [], false⟩,
          ⟨(some 49), .pick (.t 39) (.k (.bool true)) (.t 48), none, [], false⟩,
          ⟨(some 4), .mv (.t 49), none, [], false⟩])
        (.ret)))))
/-- skyway/gray.Change -/
def c17 : CF where
  np := 2
  nt := 34
  res := [.t 4, .t 5]
  code := .seq (.reg [
      ⟨(some 4), .mv (.k (.int .i64 0)), none, [], false⟩,
      ⟨(some 5), .mv (.k (.int .i64 0)), none, [], false⟩])
    (.seq (.seq (.reg [
        ⟨(some 8), .mv (.t 0), none, [], false⟩,
        ⟨(some 9), .bin .lss (.t 8) (.k (.int .i64 0)), none, [], false⟩,
        ⟨(some 10), .mv (.t 9), none, [], false⟩,
        ⟨(some 11), .mv (.t 0), (some (10, false)), [], false⟩,
        ⟨(some 12), .bin .gtr (.t 11) (.k (.int .i64 4095)), (some (10, false)), [], false⟩,
        ⟨(some 13), .pick (.t 10) (.k (.bool true)) (.t 12), none, [], false⟩,
        ⟨(some 14), .mv (.t 13), none, [], false⟩,
        ⟨(some 15), .mv (.t 1), (some (14, false)), [], false⟩,
        ⟨(some 16), .bin .lss (.t 15) (.k (.int .i64 0)), (some (14, false)), [], false⟩,
        ⟨(some 17), .pick (.t 14) (.k (.bool true)) (.t 16), none, [], false⟩,
        ⟨(some 18), .mv (.t 17), none, [], false⟩,
        ⟨(some 19), .mv (.t 1), (some (18, false)), [], false⟩,
        ⟨(some 20), .bin .gtr (.t 19) (.k (.int .i64 4095)), (some (18, false)), [], false⟩,
        ⟨(some 21), .pick (.t 18) (.k (.bool true)) (.t 20), none, [], false⟩])
      (.cond (.t 21) (.seq (.reg [
          ⟨(some 4), .mv (.k (.int .i64 0)), none, [], false⟩,
          ⟨(some 5), .mv (.k (.int .i64 4)), none, [], false⟩])
        (.ret))
       (.skip)))
     (.seq (.reg [
        ⟨(some 6), .mv (.k (.int .i64 0)), none, [], false⟩])
      (.seq (.seq (.reg [
          ⟨(some 22), .mv (.t 0), none, [], false⟩,
          ⟨(some 23), .mv (.t 1), none, [], false⟩,
          ⟨(some 24), .bin .xor (.t 22) (.t 23), none, [], false⟩,
          ⟨(some 7), .mv (.t 24), none, [], false⟩])
        (.blk 0 (.loop (.seq (.seq (.reg [
              ⟨(some 25), .mv (.t 7), none, [], false⟩,
              ⟨(some 26), .bin .neq (.t 25) (.k (.int .i64 0)), none, [], false⟩])
            (.cond (.t 26) (.skip)
             (.exit 0)))
           (.seq (.blk 1 (.reg [
               ⟨(some 31), .mv (.t 6), none, [], false⟩,
               ⟨(some 32), .bin .add (.t 31) (.k (.int .i64 1)), none, [], false⟩,
               ⟨(some 6), .mv (.t 32), none, [], false⟩]))
            (.reg [
              ⟨(some 27), .mv (.t 7), none, [], false⟩,
              ⟨(some 28), .mv (.t 7), none, [], false⟩,
              ⟨(some 29), .bin .sub (.t 28) (.k (.int .i64 1)), none, [], false⟩,
              ⟨(some 30), .bin .and (.t 27) (.t 29), none, [], false⟩,
              ⟨(some 7), .mv (.t 30), none, [], false⟩]))))))
       (.seq (.reg [
          ⟨(some 33), .mv (.t 6), none, [], false⟩,
          ⟨(some 4), .mv (.t 33), none, [], false⟩,
          ⟨(some 5), .mv (.k (.int .i64 0)), none, [], false⟩])
        (.ret)))))
/-- skyway/skywaykeep2.GrayChange -/
def c4 : CF where
  np := 3
  nt := 94
  res := [.t 6]
  code := .seq (.reg [
      ⟨(some 6), .mv (.k (.bool false)), none, [], false⟩])
    (.seq (.seq (.reg [
        ⟨(some 18), .call (.k (.fn 17 [])) [(.k (.int .i64 5)), (.k (.int .i64 6))], none, [], false⟩,
        ⟨(some 17), .mv (.t 18), none, [], false⟩,
        ⟨(some 19), .ext (.t 17) 0, none, [], false⟩,
        ⟨(some 20), .ext (.t 17) 1, none, [], false⟩,
        ⟨(some 7), .mv (.t 19), none, [], false⟩,
        ⟨(some 8), .mv (.t 20), none, [], false⟩])
      (.seq (.reg [
         ⟨(some 21), .mv (.t 8), none, [], false⟩,
         ⟨(some 22), .bin .neq (.t 21) (.k (.int .i64 0)), none, [], false⟩,
         ⟨(some 23), .mv (.t 22), none, [], false⟩,
         ⟨(some 24), .mv (.t 7), (some (23, false)), [], false⟩,
         ⟨(some 25), .bin .neq (.t 24) (.k (.int .i64 2)), (some (23, false)), [], false⟩,
         ⟨(some 26), .pick (.t 23) (.k (.bool true)) (.t 25), none, [], false⟩])
       (.cond (.t 26) (.seq (.reg [
           ⟨(some 6), .mv (.k (.bool false)), none, [], false⟩])
         (.ret))
        (.skip))))
     (.seq (.reg [
        ⟨(some 28), .mv (.t 0), none, [], false⟩,
        ⟨(some 29), .mv (.t 1), none, [], false⟩,
        ⟨(some 30), .call (.k (.fn 17 [])) [(.t 28), (.t 29)], none, [], false⟩,
        ⟨(some 27), .mv (.t 30), none, [], false⟩,
        ⟨(some 31), .ext (.t 27) 0, none, [], false⟩,
        ⟨(some 32), .ext (.t 27) 1, none, [], false⟩,
        ⟨(some 9), .mv (.t 31), none, [], false⟩,
        ⟨(some 10), .mv (.t 32), none, [], false⟩])
      (.seq (.reg [
         ⟨(some 34), .mv (.t 1), none, [], false⟩,
         ⟨(some 35), .mv (.t 2), none, [], false⟩,
         ⟨(some 36), .call (.k (.fn 17 [])) [(.t 34), (.t 35)], none, [], false⟩,
         ⟨(some 33), .mv (.t 36), none, [], false⟩,
         ⟨(some 37), .ext (.t 33) 0, none, [], false⟩,
         ⟨(some 38), .ext (.t 33) 1, none, [], false⟩,
         ⟨(some 11), .mv (.t 37), none, [], false⟩,
         ⟨(some 12), .mv (.t 38), none, [], false⟩])
       (.seq (.reg [
          ⟨(some 40), .mv (.t 0), none, [], false⟩,
          ⟨(some 41), .mv (.t 2), none, [], false⟩,
          ⟨(some 42), .call (.k (.fn 17 [])) [(.t 40), (.t 41)], none, [], false⟩,
          ⟨(some 39), .mv (.t 42), none, [], false⟩,
          ⟨(some 43), .ext (.t 39) 0, none, [], false⟩,
          ⟨(some 44), .ext (.t 39) 1, none, [], false⟩,
          ⟨(some 13), .mv (.t 43), none, [], false⟩,
          ⟨(some 14), .mv (.t 44), none, [], false⟩])
        (.seq (.reg [
           ⟨(some 46), .mv (.t 1), none, [], false⟩,
           ⟨(some 47), .mv (.t 0), none, [], false⟩,
           ⟨(some 48), .call (.k (.fn 17 [])) [(.t 46), (.t 47)], none, [], false⟩,
           ⟨(some 45), .mv (.t 48), none, [], false⟩,
           ⟨(some 49), .ext (.t 45) 0, none, [], false⟩,
           ⟨(some 50), .ext (.t 45) 1, none, [], false⟩,
           ⟨(some 15), .mv (.t 49), none, [], false⟩,
           ⟨(some 16), .mv (.t 50), none, [], false⟩])
         (.seq (.seq (.reg [
             ⟨(some 51), .mv (.t 10), none, [], false⟩,
             ⟨(some 52), .mv (.t 12), none, [], false⟩,
             ⟨(some 53), .mv (.t 14), none, [], false⟩,
             ⟨(some 54), .mv (.t 16), none, [], false⟩,
             ⟨(some 55), .mks [.int .i64 0, .int .i64 0, .int .i64 0, .int .i64 0] 1 4 [(0, 1, (.t 51)), (1, 1, (.t 52)), (2, 1, (.t 53)), (3, 1, (.t 54))], none, [], false⟩,
             ⟨(some 56), .call (.k (.fn 16 [])) [(.t 55)], none, [], false⟩,
             ⟨(some 57), .un .not (.t 56), none, [], false⟩])
           (.cond (.t 57) (.seq (.reg [
               ⟨(some 58), .mv (.t 9), none, [], false⟩,
               ⟨(some 59), .bin .eql (.t 58) (.k (.int .i64 0)), none, [], false⟩,
               ⟨(some 60), .mv (.t 59), none, [], false⟩,
               ⟨(some 61), .mv (.t 11), (some (60, false)), [], false⟩,
               ⟨(some 62), .bin .eql (.t 61) (.k (.int .i64 0)), (some (60, false)), [], false⟩,
               ⟨(some 63), .pick (.t 60) (.k (.bool true)) (.t 62), none, [], false⟩,
               ⟨(some 64), .mv (.t 63), none, [], false⟩,
               ⟨(some 65), .mv (.t 13), (some (64, false)), [], false⟩,
               ⟨(some 66), .bin .eql (.t 65) (.k (.int .i64 0)), (some (64, false)), [], false⟩,
               ⟨(some 67), .pick (.t 64) (.k (.bool true)) (.t 66), none, [], false⟩,
               ⟨(some 68), .mv (.t 67), none, [], false⟩,
               ⟨(some 69), .mv (.t 15), (some (68, false)), [], false⟩,
               ⟨(some 70), .bin .eql (.t 69) (.k (.int .i64 0)), (some (68, false)), [], false⟩,
               ⟨(some 71), .pick (.t 68) (.k (.bool true)) (.t 70), none, [], false⟩,
               ⟨(some 6), .mv (.t 71), none, [], false⟩])
             (.ret))
            (.skip)))
          (.seq (.reg [
             ⟨(some 72), .mv (.t 9), none, [], false⟩,
             ⟨(some 73), .bin .eql (.t 72) (.k (.int .i64 0)), none, [], false⟩,
             ⟨(some 74), .mv (.t 0), none, [], false⟩,
             ⟨(some 75), .mv (.t 1), none, [], false⟩,
             ⟨(some 76), .bin .eql (.t 74) (.t 75), none, [], false⟩,
             ⟨(some 77), .eqs false none (.t 73) (.t 76), none, [], false⟩,
             ⟨(some 78), .mv (.t 77), none, [], false⟩,
             ⟨(some 79), .mv (.t 9), (some (78, true)), [], false⟩,
             ⟨(some 80), .mv (.t 15), (some (78, true)), [], false⟩,
             ⟨(some 81), .bin .eql (.t 79) (.t 80), (some (78, true)), [], false⟩,
             ⟨(some 82), .pick (.t 78) (.t 81) (.k (.bool false)), none, [], false⟩,
             ⟨(some 83), .mv (.t 82), none, [], false⟩,
             ⟨(some 84), .mv (.t 13), (some (83, true)), [], false⟩,
             ⟨(some 85), .mv (.t 9), (some (83, true)), [], false⟩,
             ⟨(some 86), .mv (.t 11), (some (83, true)), [], false⟩,
             ⟨(some 87), .bin .add (.t 85) (.t 86), (some (83, true)), [], false⟩,
             ⟨(some 88), .bin .leq (.t 84) (.t 87), (some (83, true)), [], false⟩,
             ⟨(some 89), .pick (.t 83) (.t 88) (.k (.bool false)), none, [], false⟩,
             ⟨(some 90), .mv (.t 89), none, [], false⟩,
             ⟨(some 91), .mv (.t 9), (some (90, true)), [], false⟩,
             ⟨(some 92), .bin .leq (.t 91) (.k (.int .i64 12)), (some (90, true)), [], false⟩,
             ⟨(some 93), .pick (.t 90) (.t 92) (.k (.bool false)), none, [], false⟩,
             ⟨(some 6), .mv (.t 93), none, [], false⟩])
           (.ret))))))))
/-- skyway/bias.Check -/
def c77 : CF where
  np := 1
  nt := 31
  res := [.t 2]
  code := .seq (.reg [
      ⟨(some 1), .box (.t 0), none, [], false⟩,
      ⟨(some 2), .mv (.k (.int .i64 0)), none, [], false⟩])
    (.seq (.seq (.reg [
        ⟨(some 3), .fad 0 (.t 1), none, [], false⟩,
        ⟨(some 4), .ld1 (.t 3), none, [], false⟩,
        ⟨(some 5), .bin .lss (.t 4) (.k (.int .i64 (-10000))), none, [], false⟩,
        ⟨(some 6), .mv (.t 5), none, [], false⟩,
        ⟨(some 7), .fad 0 (.t 1), (some (6, false)), [], false⟩,
        ⟨(some 8), .ld1 (.t 7), (some (6, false)), [], false⟩,
        ⟨(some 9), .bin .gtr (.t 8) (.k (.int .i64 10000)), (some (6, false)), [], false⟩,
        ⟨(some 10), .pick (.t 6) (.k (.bool true)) (.t 9), none, [], false⟩,
        ⟨(some 11), .mv (.t 10), none, [], false⟩,
        ⟨(some 12), .fad 1 (.t 1), (some (11, false)), [], false⟩,
        ⟨(some 13), .ld1 (.t 12), (some (11, false)), [], false⟩,
        ⟨(some 14), .bin .lss (.t 13) (.k (.int .i64 (-2047))), (some (11, false)), [], false⟩,
        ⟨(some 15), .pick (.t 11) (.k (.bool true)) (.t 14), none, [], false⟩,
        ⟨(some 16), .mv (.t 15), none, [], false⟩,
        ⟨(some 17), .fad 1 (.t 1), (some (16, false)), [], false⟩,
        ⟨(some 18), .ld1 (.t 17), (some (16, false)), [], false⟩,
        ⟨(some 19), .bin .gtr (.t 18) (.k (.int .i64 2048)), (some (16, false)), [], false⟩,
        ⟨(some 20), .pick (.t 16) (.k (.bool true)) (.t 19), none, [], false⟩,
        ⟨(some 21), .mv (.t 20), none, [], false⟩,
        ⟨(some 22), .fad 2 (.t 1), (some (21, false)), [], false⟩,
        ⟨(some 23), .ld1 (.t 22), (some (21, false)), [], false⟩,
        ⟨(some 24), .bin .lss (.t 23) (.k (.int .i64 (-1000))), (some (21, false)), [], false⟩,
        ⟨(some 25), .pick (.t 21) (.k (.bool true)) (.t 24), none, [], false⟩,
        ⟨(some 26), .mv (.t 25), none, [], false⟩,
        ⟨(some 27), .fad 2 (.t 1), (some (26, false)), [], false⟩,
        ⟨(some 28), .ld1 (.t 27), (some (26, false)), [], false⟩,
        ⟨(some 29), .bin .gtr (.t 28) (.k (.int .i64 1000)), (some (26, false)), [], false⟩,
        ⟨(some 30), .pick (.t 26) (.k (.bool true)) (.t 29), none, [], false⟩])
      (.cond (.t 30) (.seq (.reg [
          ⟨(some 2), .mv (.k (.int .i64 4)), none, [], false⟩])
        (.ret))
       (.skip)))
     (.seq (.reg [
        ⟨(some 2), .mv (.k (.int .i64 0)), none, [], false⟩])
      (.ret)))
/-- skyway/radar.CheckPlot -/
def c78 : CF where
  np := 1
  nt := 61
  res := [.t 2]
  code := .seq (.reg [
      ⟨(some 1), .box (.t 0), none, [], false⟩,
      ⟨(some 2), .mv (.k (.int .i64 0)), none, [], false⟩])
    (.seq (.seq (.reg [
        ⟨(some 3), .fad 0 (.t 1), none, [], false⟩,
        ⟨(some 4), .ld1 (.t 3), none, [], false⟩,
        ⟨(some 5), .bin .lss (.t 4) (.k (.int .i64 0)), none, [], false⟩,
        ⟨(some 6), .mv (.t 5), none, [], false⟩,
        ⟨(some 7), .fad 0 (.t 1), (some (6, false)), [], false⟩,
        ⟨(some 8), .ld1 (.t 7), (some (6, false)), [], false⟩,
        ⟨(some 9), .bin .gtr (.t 8) (.k (.int .i64 255)), (some (6, false)), [], false⟩,
        ⟨(some 10), .pick (.t 6) (.k (.bool true)) (.t 9), none, [], false⟩,
        ⟨(some 11), .mv (.t 10), none, [], false⟩,
        ⟨(some 12), .fad 1 (.t 1), (some (11, false)), [], false⟩,
        ⟨(some 13), .ld1 (.t 12), (some (11, false)), [], false⟩,
        ⟨(some 14), .bin .lss (.t 13) (.k (.int .i64 0)), (some (11, false)), [], false⟩,
        ⟨(some 15), .pick (.t 11) (.k (.bool true)) (.t 14), none, [], false⟩,
        ⟨(some 16), .mv (.t 15), none, [], false⟩,
        ⟨(some 17), .fad 1 (.t 1), (some (16, false)), [], false⟩,
        ⟨(some 18), .ld1 (.t 17), (some (16, false)), [], false⟩,
        ⟨(some 19), .bin .gtr (.t 18) (.k (.int .i64 200000)), (some (16, false)), [], false⟩,
        ⟨(some 20), .pick (.t 16) (.k (.bool true)) (.t 19), none, [], false⟩,
        ⟨(some 21), .mv (.t 20), none, [], false⟩,
        ⟨(some 22), .fad 2 (.t 1), (some (21, false)), [], false⟩,
        ⟨(some 23), .ld1 (.t 22), (some (21, false)), [], false⟩,
        ⟨(some 24), .bin .lss (.t 23) (.k (.int .i64 0)), (some (21, false)), [], false⟩,
        ⟨(some 25), .pick (.t 21) (.k (.bool true)) (.t 24), none, [], false⟩,
        ⟨(some 26), .mv (.t 25), none, [], false⟩,
        ⟨(some 27), .fad 2 (.t 1), (some (26, false)), [], false⟩,
        ⟨(some 28), .ld1 (.t 27), (some (26, false)), [], false⟩,
        ⟨(some 29), .bin .gtr (.t 28) (.k (.int .i64 2000000)), (some (26, false)), [], false⟩,
        ⟨(some 30), .pick (.t 26) (.k (.bool true)) (.t 29), none, [], false⟩,
        ⟨(some 31), .mv (.t 30), none, [], false⟩,
        ⟨(some 32), .fad 3 (.t 1), (some (31, false)), [], false⟩,
        ⟨(some 33), .ld1 (.t 32), (some (31, false)), [], false⟩,
        ⟨(some 34), .bin .lss (.t 33) (.k (.int .i64 0)), (some (31, false)), [], false⟩,
        ⟨(some 35), .pick (.t 31) (.k (.bool true)) (.t 34), none, [], false⟩,
        ⟨(some 36), .mv (.t 35), none, [], false⟩,
        ⟨(some 37), .fad 3 (.t 1), (some (36, false)), [], false⟩,
        ⟨(some 38), .ld1 (.t 37), (some (36, false)), [], false⟩,
        ⟨(some 39), .bin .gtr (.t 38) (.k (.int .i64 4095)), (some (36, false)), [], false⟩,
        ⟨(some 40), .pick (.t 36) (.k (.bool true)) (.t 39), none, [], false⟩,
        ⟨(some 41), .mv (.t 40), none, [], false⟩,
        ⟨(some 42), .fad 4 (.t 1), (some (41, false)), [], false⟩,
        ⟨(some 43), .ld1 (.t 42), (some (41, false)), [], false⟩,
        ⟨(some 44), .bin .lss (.t 43) (.k (.int .i64 0)), (some (41, false)), [], false⟩,
        ⟨(some 45), .pick (.t 41) (.k (.bool true)) (.t 44), none, [], false⟩,
        ⟨(some 46), .mv (.t 45), none, [], false⟩,
        ⟨(some 47), .fad 4 (.t 1), (some (46, false)), [], false⟩,
        ⟨(some 48), .ld1 (.t 47), (some (46, false)), [], false⟩,
        ⟨(some 49), .bin .gtr (.t 48) (.k (.int .i64 60000)), (some (46, false)), [], false⟩,
        ⟨(some 50), .pick (.t 46) (.k (.bool true)) (.t 49), none, [], false⟩,
        ⟨(some 51), .mv (.t 50), none, [], false⟩,
        ⟨(some 52), .fad 5 (.t 1), (some (51, false)), [], false⟩,
        ⟨(some 53), .ld1 (.t 52), (some (51, false)), [], false⟩,
        ⟨(some 54), .bin .lss (.t 53) (.k (.int .i64 (-1))), (some (51, false)), [], false⟩,
        ⟨(some 55), .pick (.t 51) (.k (.bool true)) (.t 54), none, [], false⟩,
        ⟨(some 56), .mv (.t 55), none, [], false⟩,
        ⟨(some 57), .fad 5 (.t 1), (some (56, false)), [], false⟩,
        ⟨(some 58), .ld1 (.t 57), (some (56, false)), [], false⟩,
        ⟨(some 59), .bin .gtr (.t 58) (.k (.int .i64 4095)), (some (56, false)), [], false⟩,
        ⟨(some 60), .pick (.t 56) (.k (.bool true)) (.t 59), none, [], false⟩])
      (.cond (.t 60) (.seq (.reg [
          ⟨(some 2), .mv (.k (.int .i64 4)), none, [], false⟩])
        (.ret))
       (.skip)))
     (.seq (.reg [
        ⟨(some 2), .mv (.k (.int .i64 0)), none, [], false⟩])
      (.ret)))
/-- skyway/angle.Norm -/
def c79 : CF where
  np := 1
  nt := 5
  res := [.t 2]
  code := .seq (.reg [
      ⟨(some 2), .mv (.k (.int .i64 0)), none, [], false⟩])
    (.seq (.reg [
       ⟨(some 3), .mv (.t 0), none, [], false⟩,
       ⟨(some 4), .bin .and (.t 3) (.k (.int .i64 4095)), none, [], false⟩,
       ⟨(some 2), .mv (.t 4), none, [], false⟩])
     (.ret))
/-- skyway/bias.moved -/
def c48 : CF where
  np := 3
  nt := 52
  res := [.cn 6 6, .t 7]
  code := .seq (.reg [
      ⟨(some 3), .box (.t 0), none, [], false⟩,
      ⟨(some 4), .box (.t 1), none, [], false⟩,
      ⟨(some 6), .new [.int .i64 0, .int .i64 0, .int .i64 0, .int .i64 0, .int .i64 0, .int .i64 0], none, [], false⟩,
      ⟨(some 7), .mv (.k (.int .i64 0)), none, [], false⟩])
    (.seq (.seq (.reg [
        ⟨(some 10), .ldn 3 (.t 4), none, [], false⟩,
        ⟨(some 11), .call (.k (.fn 77 [])) [(.t 10)], none, [], false⟩,
        ⟨(some 8), .mv (.t 11), none, [], false⟩])
      (.seq (.reg [
         ⟨(some 12), .mv (.t 8), none, [], false⟩,
         ⟨(some 13), .bin .neq (.t 12) (.k (.int .i64 0)), none, [], false⟩])
       (.cond (.t 13) (.seq (.reg [
           ⟨(some 14), .mk [.int .i64 0, .int .i64 0, .int .i64 0, .int .i64 0, .int .i64 0, .int .i64 0] [], none, [], false⟩,
           ⟨(some 15), .mv (.t 8), none, [], false⟩,
           ⟨none, .st 6 (.t 6) (.t 14), none, [], false⟩,
           ⟨(some 7), .mv (.t 15), none, [], false⟩])
         (.ret))
        (.skip))))
     (.seq (.seq (.reg [
         ⟨(some 16), .ldn 6 (.t 3), none, [], false⟩,
         ⟨(some 17), .call (.k (.fn 78 [])) [(.t 16)], none, [], false⟩,
         ⟨(some 9), .mv (.t 17), none, [], false⟩])
       (.seq (.reg [
          ⟨(some 18), .mv (.t 9), none, [], false⟩,
          ⟨(some 19), .bin .neq (.t 18) (.k (.int .i64 0)), none, [], false⟩])
        (.cond (.t 19) (.seq (.reg [
            ⟨(some 20), .mk [.int .i64 0, .int .i64 0, .int .i64 0, .int .i64 0, .int .i64 0, .int .i64 0] [], none, [], false⟩,
            ⟨(some 21), .mv (.t 9), none, [], false⟩,
            ⟨none, .st 6 (.t 6) (.t 20), none, [], false⟩,
            ⟨(some 7), .mv (.t 21), none, [], false⟩])
          (.ret))
         (.skip))))
      (.seq (.reg [
         ⟨(some 22), .fad 2 (.t 3), none, [], false⟩,
         ⟨(some 23), .ld1 (.t 22), none, [], false⟩,
         ⟨(some 24), .mv (.t 2), none, [], false⟩,
         ⟨(some 25), .fad 0 (.t 4), none, [], false⟩,
         ⟨(some 26), .ld1 (.t 25), none, [], false⟩,
         ⟨(some 27), .bin .mul (.t 24) (.t 26), none, [], false⟩,
         ⟨(some 28), .bin .add (.t 23) (.t 27), none, [], false⟩,
         ⟨(some 29), .fad 2 (.t 3), none, [], false⟩,
         ⟨none, .st 1 (.t 29) (.t 28), none, [], false⟩])
       (.seq (.reg [
          ⟨(some 30), .fad 1 (.t 3), none, [], false⟩,
          ⟨(some 31), .ld1 (.t 30), none, [], false⟩,
          ⟨(some 32), .mv (.t 2), none, [], false⟩,
          ⟨(some 33), .fad 2 (.t 4), none, [], false⟩,
          ⟨(some 34), .ld1 (.t 33), none, [], false⟩,
          ⟨(some 35), .bin .mul (.t 32) (.t 34), none, [], false⟩,
          ⟨(some 36), .bin .add (.t 31) (.t 35), none, [], false⟩,
          ⟨(some 37), .fad 1 (.t 3), none, [], false⟩,
          ⟨none, .st 1 (.t 37) (.t 36), none, [], false⟩])
        (.seq (.reg [
           ⟨(some 38), .fad 3 (.t 3), none, [], false⟩,
           ⟨(some 39), .ld1 (.t 38), none, [], false⟩,
           ⟨(some 40), .mv (.t 2), none, [], false⟩,
           ⟨(some 41), .fad 1 (.t 4), none, [], false⟩,
           ⟨(some 42), .ld1 (.t 41), none, [], false⟩,
           ⟨(some 43), .bin .mul (.t 40) (.t 42), none, [], false⟩,
           ⟨(some 44), .bin .add (.t 39) (.t 43), none, [], false⟩,
           ⟨(some 45), .call (.k (.fn 79 [])) [(.t 44)], none, [], false⟩,
           ⟨(some 46), .fad 3 (.t 3), none, [], false⟩,
           ⟨none, .st 1 (.t 46) (.t 45), none, [], false⟩])
         (.seq (.seq (.reg [
             ⟨(some 47), .ldn 6 (.t 3), none, [], false⟩,
             ⟨(some 48), .call (.k (.fn 78 [])) [(.t 47)], none, [], false⟩,
             ⟨(some 49), .bin .neq (.t 48) (.k (.int .i64 0)), none, [], false⟩])
           (.cond (.t 49) (.seq (.reg [
               ⟨(some 50), .mk [.int .i64 0, .int .i64 0, .int .i64 0, .int .i64 0, .int .i64 0, .int .i64 0] [], none, [], false⟩,
               ⟨none, .st 6 (.t 6) (.t 50), none, [], false⟩,
               ⟨(some 7), .mv (.k (.int .i64 8)), none, [], false⟩])
             (.ret))
            (.skip)))
          (.seq (.reg [
             ⟨(some 51), .ldn 6 (.t 3), none, [], false⟩,
             ⟨none, .st 6 (.t 6) (.t 51), none, [], false⟩,
             ⟨(some 7), .mv (.k (.int .i64 0)), none, [], false⟩])
           (.ret))))))))
/-- skyway/bias.Apply -/
def c18 : CF where
  np := 2
  nt := 11
  res := [.cn 6 4, .t 5]
  code := .seq (.reg [
      ⟨(some 2), .box (.t 0), none, [], false⟩,
      ⟨(some 3), .box (.t 1), none, [], false⟩,
      ⟨(some 4), .new [.int .i64 0, .int .i64 0, .int .i64 0, .int .i64 0, .int .i64 0, .int .i64 0], none, [], false⟩,
      ⟨(some 5), .mv (.k (.int .i64 0)), none, [], false⟩])
    (.seq (.reg [
       ⟨(some 6), .ldn 6 (.t 2), none, [], false⟩,
       ⟨(some 7), .ldn 3 (.t 3), none, [], false⟩,
       ⟨(some 8), .call (.k (.fn 48 [])) [(.t 6), (.t 7), (.k (.int .i64 1))], none, [], false⟩,
       ⟨(some 9), .ext (.t 8) 0, none, [], false⟩,
       ⟨(some 10), .ext (.t 8) 1, none, [], false⟩,
       ⟨none, .st 6 (.t 4) (.t 9), none, [], false⟩,
       ⟨(some 5), .mv (.t 10), none, [], false⟩])
     (.ret))
/-- skyway/bias.Correct -/
def c19 : CF where
  np := 2
  nt := 11
  res := [.cn 6 4, .t 5]
  code := .seq (.reg [
      ⟨(some 2), .box (.t 0), none, [], false⟩,
      ⟨(some 3), .box (.t 1), none, [], false⟩,
      ⟨(some 4), .new [.int .i64 0, .int .i64 0, .int .i64 0, .int .i64 0, .int .i64 0, .int .i64 0], none, [], false⟩,
      ⟨(some 5), .mv (.k (.int .i64 0)), none, [], false⟩])
    (.seq (.reg [
       ⟨(some 6), .ldn 6 (.t 2), none, [], false⟩,
       ⟨(some 7), .ldn 3 (.t 3), none, [], false⟩,
       ⟨(some 8), .call (.k (.fn 48 [])) [(.t 6), (.t 7), (.k (.int .i64 (-1)))], none, [], false⟩,
       ⟨(some 9), .ext (.t 8) 0, none, [], false⟩,
       ⟨(some 10), .ext (.t 8) 1, none, [], false⟩,
       ⟨none, .st 6 (.t 4) (.t 9), none, [], false⟩,
       ⟨(some 5), .mv (.t 10), none, [], false⟩])
     (.ret))
/-- skyway/skywaykeep2.BiasBack -/
def c5 : CF where
  np := 2
  nt := 48
  res := [.t 4]
  code := .seq (.reg [
      ⟨(some 2), .box (.t 0), none, [], false⟩,
      ⟨(some 3), .box (.t 1), none, [], false⟩,
      ⟨(some 4), .mv (.k (.bool false)), none, [], false⟩])
    (.seq (.seq (.reg [
        ⟨(some 12), .mk [.int .i64 0, .int .i64 0, .int .i64 0, .int .i64 0, .int .i64 0, .int .i64 0] [(2, 1, (.k (.int .i64 100)))], none, [], false⟩,
        ⟨(some 13), .mk [.int .i64 0, .int .i64 0, .int .i64 0] [(0, 1, (.k (.int .i64 5)))], none, [], false⟩,
        ⟨(some 14), .call (.k (.fn 18 [])) [(.t 12), (.t 13)], none, [], false⟩,
        ⟨(some 11), .mv (.t 14), none, [], false⟩,
        ⟨(some 15), .ext (.t 11) 0, none, [], false⟩,
        ⟨(some 16), .ext (.t 11) 1, none, [], false⟩,
        ⟨(some 5), .new [.int .i64 0, .int .i64 0, .int .i64 0, .int .i64 0, .int .i64 0, .int .i64 0], none, [], false⟩,
        ⟨none, .st 6 (.t 5) (.t 15), none, [], false⟩,
        ⟨(some 6), .mv (.t 16), none, [], false⟩])
      (.seq (.reg [
         ⟨(some 17), .mv (.t 6), none, [], false⟩,
         ⟨(some 18), .bin .neq (.t 17) (.k (.int .i64 0)), none, [], false⟩,
         ⟨(some 19), .mv (.t 18), none, [], false⟩,
         ⟨(some 20), .fad 2 (.t 5), (some (19, false)), [], false⟩,
         ⟨(some 21), .ld1 (.t 20), (some (19, false)), [], false⟩,
         ⟨(some 22), .bin .neq (.t 21) (.k (.int .i64 105)), (some (19, false)), [], false⟩,
         ⟨(some 23), .pick (.t 19) (.k (.bool true)) (.t 22), none, [], false⟩])
       (.cond (.t 23) (.seq (.reg [
           ⟨(some 4), .mv (.k (.bool false)), none, [], false⟩])
         (.ret))
        (.skip))))
     (.seq (.reg [
        ⟨(some 25), .ldn 6 (.t 2), none, [], false⟩,
        ⟨(some 26), .ldn 3 (.t 3), none, [], false⟩,
        ⟨(some 27), .call (.k (.fn 19 [])) [(.t 25), (.t 26)], none, [], false⟩,
        ⟨(some 24), .mv (.t 27), none, [], false⟩,
        ⟨(some 28), .ext (.t 24) 0, none, [], false⟩,
        ⟨(some 29), .ext (.t 24) 1, none, [], false⟩,
        ⟨(some 7), .new [.int .i64 0, .int .i64 0, .int .i64 0, .int .i64 0, .int .i64 0, .int .i64 0], none, [], false⟩,
        ⟨none, .st 6 (.t 7) (.t 28), none, [], false⟩,
        ⟨(some 8), .mv (.t 29), none, [], false⟩])
      (.seq (.seq (.reg [
          ⟨(some 30), .mv (.t 8), none, [], false⟩,
          ⟨(some 31), .bin .neq (.t 30) (.k (.int .i64 0)), none, [], false⟩])
        (.cond (.t 31) (.seq (.reg [
            ⟨(some 32), .ldn 6 (.t 7), none, [], false⟩,
            ⟨(some 33), .mk [.int .i64 0, .int .i64 0, .int .i64 0, .int .i64 0, .int .i64 0, .int .i64 0] [], none, [], false⟩,
            ⟨(some 34), .eqs false (some [.i, .i, .i, .i, .i, .i]) (.t 32) (.t 33), none, [], false⟩,
            ⟨(some 4), .mv (.t 34), none, [], false⟩])
          (.ret))
         (.skip)))
       (.seq (.reg [
          ⟨(some 36), .ldn 6 (.t 7), none, [], false⟩,
          ⟨(some 37), .ldn 3 (.t 3), none, [], false⟩,
          ⟨(some 38), .call (.k (.fn 18 [])) [(.t 36), (.t 37)], none, [], false⟩,
          ⟨(some 35), .mv (.t 38), none, [], false⟩,
          ⟨(some 39), .ext (.t 35) 0, none, [], false⟩,
          ⟨(some 40), .ext (.t 35) 1, none, [], false⟩,
          ⟨(some 9), .new [.int .i64 0, .int .i64 0, .int .i64 0, .int .i64 0, .int .i64 0, .int .i64 0], none, [], false⟩,
          ⟨none, .st 6 (.t 9) (.t 39), none, [], false⟩,
          ⟨(some 10), .mv (.t 40), none, [], false⟩])
        (.seq (.reg [
           ⟨(some 41), .mv (.t 10), none, [], false⟩,
           ⟨(some 42), .bin .eql (.t 41) (.k (.int .i64 0)), none, [], false⟩,
           ⟨(some 43), .mv (.t 42), none, [], false⟩,
           ⟨(some 44), .ldn 6 (.t 9), (some (43, true)), [], false⟩,
           ⟨(some 45), .ldn 6 (.t 2), (some (43, true)), [], false⟩,
           ⟨(some 46), .eqs false (some [.i, .i, .i, .i, .i, .i]) (.t 44) (.t 45), (some (43, true)), [], false⟩,
           ⟨(some 47), .pick (.t 43) (.t 46) (.k (.bool false)), none, [], false⟩,
           ⟨(some 4), .mv (.t 47), none, [], false⟩])
         (.ret))))))
/-- skyway/gray.Encode -/
def c20 : CF where
  np := 1
  nt := 18
  res := [.t 2, .t 3]
  code := .seq (.reg [
      ⟨(some 2), .mv (.k (.int .i64 0)), none, [], false⟩,
      ⟨(some 3), .mv (.k (.int .i64 0)), none, [], false⟩])
    (.seq (.seq (.reg [
        ⟨(some 5), .mv (.t 0), none, [], false⟩,
        ⟨(some 6), .bin .lss (.t 5) (.k (.int .i64 (-1000))), none, [], false⟩,
        ⟨(some 7), .mv (.t 6), none, [], false⟩,
        ⟨(some 8), .mv (.t 0), (some (7, false)), [], false⟩,
        ⟨(some 9), .bin .gtr (.t 8) (.k (.int .i64 60000)), (some (7, false)), [], false⟩,
        ⟨(some 10), .pick (.t 7) (.k (.bool true)) (.t 9), none, [], false⟩])
      (.cond (.t 10) (.seq (.reg [
          ⟨(some 2), .mv (.k (.int .i64 0)), none, [], false⟩,
          ⟨(some 3), .mv (.k (.int .i64 4)), none, [], false⟩])
        (.ret))
       (.skip)))
     (.seq (.reg [
        ⟨(some 11), .mv (.t 0), none, [], false⟩,
        ⟨(some 12), .bin .sub (.t 11) (.k (.int .i64 (-1000))), none, [], false⟩,
        ⟨(some 13), .bin .quo (.t 12) (.k (.int .i64 100)), none, [], false⟩,
        ⟨(some 4), .mv (.t 13), none, [], false⟩])
      (.seq (.reg [
         ⟨(some 14), .mv (.t 4), none, [], false⟩,
         ⟨(some 15), .mv (.t 4), none, [], false⟩,
         ⟨(some 16), .bin .shr (.t 15) (.k (.int .u64 1)), none, [], false⟩,
         ⟨(some 17), .bin .xor (.t 14) (.t 16), none, [], false⟩,
         ⟨(some 2), .mv (.t 17), none, [], false⟩,
         ⟨(some 3), .mv (.k (.int .i64 0)), none, [], false⟩])
       (.ret))))
/-- skyway/gray.Decode -/
def c21 : CF where
  np := 1
  nt := 25
  res := [.t 2, .t 3]
  code := .seq (.reg [
      ⟨(some 2), .mv (.k (.int .i64 0)), none, [], false⟩,
      ⟨(some 3), .mv (.k (.int .i64 0)), none, [], false⟩])
    (.seq (.seq (.reg [
        ⟨(some 6), .mv (.t 0), none, [], false⟩,
        ⟨(some 7), .bin .lss (.t 6) (.k (.int .i64 0)), none, [], false⟩,
        ⟨(some 8), .mv (.t 7), none, [], false⟩,
        ⟨(some 9), .mv (.t 0), (some (8, false)), [], false⟩,
        ⟨(some 10), .bin .gtr (.t 9) (.k (.int .i64 4095)), (some (8, false)), [], false⟩,
        ⟨(some 11), .pick (.t 8) (.k (.bool true)) (.t 10), none, [], false⟩])
      (.cond (.t 11) (.seq (.reg [
          ⟨(some 2), .mv (.k (.int .i64 0)), none, [], false⟩,
          ⟨(some 3), .mv (.k (.int .i64 4)), none, [], false⟩])
        (.ret))
       (.skip)))
     (.seq (.reg [
        ⟨(some 4), .mv (.k (.int .i64 0)), none, [], false⟩])
      (.seq (.blk 0 (.loop (.seq (.seq (.reg [
             ⟨(some 12), .mv (.t 0), none, [], false⟩,
             ⟨(some 13), .bin .gtr (.t 12) (.k (.int .i64 0)), none, [], false⟩])
           (.cond (.t 13) (.skip)
            (.exit 0)))
          (.seq (.blk 1 (.reg [
              ⟨(some 16), .mv (.t 4), none, [], false⟩,
              ⟨(some 17), .mv (.t 0), none, [], false⟩,
              ⟨(some 18), .bin .xor (.t 16) (.t 17), none, [], false⟩,
              ⟨(some 4), .mv (.t 18), none, [], false⟩]))
           (.reg [
             ⟨(some 14), .mv (.t 0), none, [], false⟩,
             ⟨(some 15), .bin .shr (.t 14) (.k (.int .u64 1)), none, [], false⟩,
             ⟨(some 0), .mv (.t 15), none, [], false⟩])))))
       (.seq (.reg [
          ⟨(some 19), .mv (.t 4), none, [], false⟩,
          ⟨(some 20), .bin .mul (.k (.int .i64 100)) (.t 19), none, [], false⟩,
          ⟨(some 21), .bin .add (.k (.int .i64 (-1000))) (.t 20), none, [], false⟩,
          ⟨(some 5), .mv (.t 21), none, [], false⟩])
        (.seq (.seq (.reg [
            ⟨(some 22), .mv (.t 5), none, [], false⟩,
            ⟨(some 23), .bin .gtr (.t 22) (.k (.int .i64 60000)), none, [], false⟩])
          (.cond (.t 23) (.seq (.reg [
              ⟨(some 2), .mv (.k (.int .i64 0)), none, [], false⟩,
              ⟨(some 3), .mv (.k (.int .i64 8)), none, [], false⟩])
            (.ret))
           (.skip)))
         (.seq (.reg [
            ⟨(some 24), .mv (.t 5), none, [], false⟩,
            ⟨(some 2), .mv (.t 24), none, [], false⟩,
            ⟨(some 3), .mv (.k (.int .i64 0)), none, [], false⟩])
          (.ret)))))))
/-- skyway/skywaykeep2.GrayNear -/
def c6 : CF where
  np := 1
  nt := 72
  res := [.t 2]
  code := .seq (.reg [
      ⟨(some 2), .mv (.k (.bool false)), none, [], false⟩])
    (.seq (.seq (.reg [
        ⟨(some 14), .call (.k (.fn 20 [])) [(.k (.int .i64 0))], none, [], false⟩,
        ⟨(some 13), .mv (.t 14), none, [], false⟩,
        ⟨(some 15), .ext (.t 13) 0, none, [], false⟩,
        ⟨(some 16), .ext (.t 13) 1, none, [], false⟩,
        ⟨(some 3), .mv (.t 15), none, [], false⟩,
        ⟨(some 4), .mv (.t 16), none, [], false⟩])
      (.seq (.reg [
         ⟨(some 17), .mv (.t 4), none, [], false⟩,
         ⟨(some 18), .bin .neq (.t 17) (.k (.int .i64 0)), none, [], false⟩,
         ⟨(some 19), .mv (.t 18), none, [], false⟩,
         ⟨(some 20), .mv (.t 3), (some (19, false)), [], false⟩,
         ⟨(some 21), .bin .neq (.t 20) (.k (.int .i64 15)), (some (19, false)), [], false⟩,
         ⟨(some 22), .pick (.t 19) (.k (.bool true)) (.t 21), none, [], false⟩])
       (.cond (.t 22) (.seq (.reg [
           ⟨(some 2), .mv (.k (.bool false)), none, [], false⟩])
         (.ret))
        (.skip))))
     (.seq (.reg [
        ⟨(some 24), .mv (.t 0), none, [], false⟩,
        ⟨(some 25), .call (.k (.fn 20 [])) [(.t 24)], none, [], false⟩,
        ⟨(some 23), .mv (.t 25), none, [], false⟩,
        ⟨(some 26), .ext (.t 23) 0, none, [], false⟩,
        ⟨(some 27), .ext (.t 23) 1, none, [], false⟩,
        ⟨(some 5), .mv (.t 26), none, [], false⟩,
        ⟨(some 6), .mv (.t 27), none, [], false⟩])
      (.seq (.seq (.reg [
          ⟨(some 28), .mv (.t 6), none, [], false⟩,
          ⟨(some 29), .bin .neq (.t 28) (.k (.int .i64 0)), none, [], false⟩])
        (.cond (.t 29) (.seq (.reg [
            ⟨(some 30), .mv (.t 5), none, [], false⟩,
            ⟨(some 31), .bin .eql (.t 30) (.k (.int .i64 0)), none, [], false⟩,
            ⟨(some 2), .mv (.t 31), none, [], false⟩])
          (.ret))
         (.skip)))
       (.seq (.reg [
          ⟨(some 33), .mv (.t 5), none, [], false⟩,
          ⟨(some 34), .call (.k (.fn 21 [])) [(.t 33)], none, [], false⟩,
          ⟨(some 32), .mv (.t 34), none, [], false⟩,
          ⟨(some 35), .ext (.t 32) 0, none, [], false⟩,
          ⟨(some 36), .ext (.t 32) 1, none, [], false⟩,
          ⟨(some 7), .mv (.t 35), none, [], false⟩,
          ⟨(some 8), .mv (.t 36), none, [], false⟩])
        (.seq (.seq (.reg [
            ⟨(some 37), .mv (.t 8), none, [], false⟩,
            ⟨(some 38), .bin .neq (.t 37) (.k (.int .i64 0)), none, [], false⟩,
            ⟨(some 39), .mv (.t 38), none, [], false⟩,
            ⟨(some 40), .mv (.t 7), (some (39, false)), [], false⟩,
            ⟨(some 41), .mv (.t 0), (some (39, false)), [], false⟩,
            ⟨(some 42), .bin .gtr (.t 40) (.t 41), (some (39, false)), [], false⟩,
            ⟨(some 43), .pick (.t 39) (.k (.bool true)) (.t 42), none, [], false⟩,
            ⟨(some 44), .mv (.t 43), none, [], false⟩,
            ⟨(some 45), .mv (.t 0), (some (44, false)), [], false⟩,
            ⟨(some 46), .mv (.t 7), (some (44, false)), [], false⟩,
            ⟨(some 47), .bin .sub (.t 45) (.t 46), (some (44, false)), [], false⟩,
            ⟨(some 48), .bin .gtr (.t 47) (.k (.int .i64 99)), (some (44, false)), [], false⟩,
            ⟨(some 49), .pick (.t 44) (.k (.bool true)) (.t 48), none, [], false⟩])
          (.cond (.t 49) (.seq (.reg [
              ⟨(some 2), .mv (.k (.bool false)), none, [], false⟩])
            (.ret))
           (.skip)))
         (.seq (.reg [
            ⟨(some 51), .mv (.t 0), none, [], false⟩,
            ⟨(some 52), .bin .add (.t 51) (.k (.int .i64 100)), none, [], false⟩,
            ⟨(some 53), .call (.k (.fn 20 [])) [(.t 52)], none, [], false⟩,
            ⟨(some 50), .mv (.t 53), none, [], false⟩,
            ⟨(some 54), .ext (.t 50) 0, none, [], false⟩,
            ⟨(some 55), .ext (.t 50) 1, none, [], false⟩,
            ⟨(some 9), .mv (.t 54), none, [], false⟩,
            ⟨(some 10), .mv (.t 55), none, [], false⟩])
          (.seq (.reg [
             ⟨(some 57), .mv (.t 5), none, [], false⟩,
             ⟨(some 58), .mv (.t 9), none, [], false⟩,
             ⟨(some 59), .call (.k (.fn 17 [])) [(.t 57), (.t 58)], none, [], false⟩,
             ⟨(some 56), .mv (.t 59), none, [], false⟩,
             ⟨(some 60), .ext (.t 56) 0, none, [], false⟩,
             ⟨(some 61), .ext (.t 56) 1, none, [], false⟩,
             ⟨(some 11), .mv (.t 60), none, [], false⟩,
             ⟨(some 12), .mv (.t 61), none, [], false⟩])
           (.seq (.reg [
              ⟨(some 62), .mv (.t 10), none, [], false⟩,
              ⟨(some 63), .bin .neq (.t 62) (.k (.int .i64 0)), none, [], false⟩,
              ⟨(some 64), .mv (.t 63), none, [], false⟩,
              ⟨(some 65), .mv (.t 12), (some (64, false)), [], false⟩,
              ⟨(some 66), .bin .eql (.t 65) (.k (.int .i64 0)), (some (64, false)), [], false⟩,
              ⟨(some 67), .mv (.t 66), (some (64, false)), [], false⟩,
              ⟨(some 68), .mv (.t 11), (some (67, true)), [], false⟩,
              ⟨(some 69), .bin .eql (.t 68) (.k (.int .i64 1)), (some (67, true)), [], false⟩,
              ⟨(some 70), .pick (.t 67) (.t 69) (.k (.bool false)), (some (64, false)), [], false⟩,
              ⟨(some 71), .pick (.t 64) (.k (.bool true)) (.t 70), none, [], false⟩,
              ⟨(some 2), .mv (.t 71), none, [], false⟩])
            (.ret)))))))))
/-- skyway/skywaykeep2.east -/
def c23 : CF where
  np := 0
  nt := 2
  res := [.cn 6 0]
  code := .seq (.reg [
      ⟨(some 0), .new [.int .i64 0, .int .i64 0, .int .i64 0, .int .i64 0, .int .i64 0, .int .i64 0], none, [], false⟩])
    (.seq (.reg [
       ⟨(some 1), .mk [.int .i64 0, .int .i64 0, .int .i64 0, .int .i64 0, .int .i64 0, .int .i64 0] [(0, 1, (.k (.int .i64 1))), (3, 1, (.k (.int .i64 100000))), (4, 1, (.k (.int .i64 1))), (5, 1, (.k (.int .i64 1)))], none, [], false⟩,
       ⟨none, .st 6 (.t 0) (.t 1), none, [], false⟩])
     (.ret))
/-- skyway/radar.placed -/
def c80 : CF where
  np := 1
  nt := 21
  res := [.t 2]
  code := .seq (.reg [
      ⟨(some 1), .box (.t 0), none, [], false⟩,
      ⟨(some 2), .mv (.k (.bool false)), none, [], false⟩])
    (.seq (.reg [
       ⟨(some 3), .fad 0 (.t 1), none, [], false⟩,
       ⟨(some 4), .ld1 (.t 3), none, [], false⟩,
       ⟨(some 5), .bin .geq (.t 4) (.k (.int .i64 (-1000000))), none, [], false⟩,
       ⟨(some 6), .mv (.t 5), none, [], false⟩,
       ⟨(some 7), .fad 0 (.t 1), (some (6, true)), [], false⟩,
       ⟨(some 8), .ld1 (.t 7), (some (6, true)), [], false⟩,
       ⟨(some 9), .bin .leq (.t 8) (.k (.int .i64 1000000)), (some (6, true)), [], false⟩,
       ⟨(some 10), .pick (.t 6) (.t 9) (.k (.bool false)), none, [], false⟩,
       ⟨(some 11), .mv (.t 10), none, [], false⟩,
       ⟨(some 12), .fad 1 (.t 1), (some (11, true)), [], false⟩,
       ⟨(some 13), .ld1 (.t 12), (some (11, true)), [], false⟩,
       ⟨(some 14), .bin .geq (.t 13) (.k (.int .i64 (-1000000))), (some (11, true)), [], false⟩,
       ⟨(some 15), .pick (.t 11) (.t 14) (.k (.bool false)), none, [], false⟩,
       ⟨(some 16), .mv (.t 15), none, [], false⟩,
       ⟨(some 17), .fad 1 (.t 1), (some (16, true)), [], false⟩,
       ⟨(some 18), .ld1 (.t 17), (some (16, true)), [], false⟩,
       ⟨(some 19), .bin .leq (.t 18) (.k (.int .i64 1000000)), (some (16, true)), [], false⟩,
       ⟨(some 20), .pick (.t 16) (.t 19) (.k (.bool false)), none, [], false⟩,
       ⟨(some 2), .mv (.t 20), none, [], false⟩])
     (.ret))
/-- skyway/radar.Check -/
def c49 : CF where
  np := 1
  nt := 47
  res := [.t 2]
  code := .seq (.reg [
      ⟨(some 1), .box (.t 0), none, [], false⟩,
      ⟨(some 2), .mv (.k (.int .i64 0)), none, [], false⟩])
    (.seq (.seq (.reg [
        ⟨(some 3), .fad 0 (.t 1), none, [], false⟩,
        ⟨(some 4), .ld1 (.t 3), none, [], false⟩,
        ⟨(some 5), .bin .lss (.t 4) (.k (.int .i64 0)), none, [], false⟩,
        ⟨(some 6), .mv (.t 5), none, [], false⟩,
        ⟨(some 7), .fad 0 (.t 1), (some (6, false)), [], false⟩,
        ⟨(some 8), .ld1 (.t 7), (some (6, false)), [], false⟩,
        ⟨(some 9), .bin .gtr (.t 8) (.k (.int .i64 255)), (some (6, false)), [], false⟩,
        ⟨(some 10), .pick (.t 6) (.k (.bool true)) (.t 9), none, [], false⟩,
        ⟨(some 11), .mv (.t 10), none, [], false⟩,
        ⟨(some 12), .fad 1 (.t 1), (some (11, false)), [], false⟩,
        ⟨(some 13), .ldn 2 (.t 12), (some (11, false)), [], false⟩,
        ⟨(some 14), .call (.k (.fn 80 [])) [(.t 13)], (some (11, false)), [], false⟩,
        ⟨(some 15), .un .not (.t 14), (some (11, false)), [], false⟩,
        ⟨(some 16), .pick (.t 11) (.k (.bool true)) (.t 15), none, [], false⟩,
        ⟨(some 17), .mv (.t 16), none, [], false⟩,
        ⟨(some 18), .fad 3 (.t 1), (some (17, false)), [], false⟩,
        ⟨(some 19), .ld1 (.t 18), (some (17, false)), [], false⟩,
        ⟨(some 20), .bin .lss (.t 19) (.k (.int .i64 1)), (some (17, false)), [], false⟩,
        ⟨(some 21), .pick (.t 17) (.k (.bool true)) (.t 20), none, [], false⟩,
        ⟨(some 22), .mv (.t 21), none, [], false⟩,
        ⟨(some 23), .fad 3 (.t 1), (some (22, false)), [], false⟩,
        ⟨(some 24), .ld1 (.t 23), (some (22, false)), [], false⟩,
        ⟨(some 25), .bin .gtr (.t 24) (.k (.int .i64 1000000)), (some (22, false)), [], false⟩,
        ⟨(some 26), .pick (.t 22) (.k (.bool true)) (.t 25), none, [], false⟩,
        ⟨(some 27), .mv (.t 26), none, [], false⟩,
        ⟨(some 28), .fad 4 (.t 1), (some (27, false)), [], false⟩,
        ⟨(some 29), .ld1 (.t 28), (some (27, false)), [], false⟩,
        ⟨(some 30), .bin .lss (.t 29) (.k (.int .i64 1)), (some (27, false)), [], false⟩,
        ⟨(some 31), .pick (.t 27) (.k (.bool true)) (.t 30), none, [], false⟩,
        ⟨(some 32), .mv (.t 31), none, [], false⟩,
        ⟨(some 33), .fad 4 (.t 1), (some (32, false)), [], false⟩,
        ⟨(some 34), .ld1 (.t 33), (some (32, false)), [], false⟩,
        ⟨(some 35), .bin .gtr (.t 34) (.k (.int .i64 10000)), (some (32, false)), [], false⟩,
        ⟨(some 36), .pick (.t 32) (.k (.bool true)) (.t 35), none, [], false⟩,
        ⟨(some 37), .mv (.t 36), none, [], false⟩,
        ⟨(some 38), .fad 5 (.t 1), (some (37, false)), [], false⟩,
        ⟨(some 39), .ld1 (.t 38), (some (37, false)), [], false⟩,
        ⟨(some 40), .bin .lss (.t 39) (.k (.int .i64 1)), (some (37, false)), [], false⟩,
        ⟨(some 41), .pick (.t 37) (.k (.bool true)) (.t 40), none, [], false⟩,
        ⟨(some 42), .mv (.t 41), none, [], false⟩,
        ⟨(some 43), .fad 5 (.t 1), (some (42, false)), [], false⟩,
        ⟨(some 44), .ld1 (.t 43), (some (42, false)), [], false⟩,
        ⟨(some 45), .bin .gtr (.t 44) (.k (.int .i64 100)), (some (42, false)), [], false⟩,
        ⟨(some 46), .pick (.t 42) (.k (.bool true)) (.t 45), none, [], false⟩])
      (.cond (.t 46) (.seq (.reg [
          ⟨(some 2), .mv (.k (.int .i64 4)), none, [], false⟩])
        (.ret))
       (.skip)))
     (.seq (.reg [
        ⟨(some 2), .mv (.k (.int .i64 0)), none, [], false⟩])
      (.ret)))
/-- skyway/num.DivDown -/
def c53 : CF where
  np := 2
  nt := 34
  res := [.t 4, .t 5]
  code := .seq (.reg [
      ⟨(some 4), .mv (.k (.int .i64 0)), none, [], false⟩,
      ⟨(some 5), .mv (.k (.int .i64 0)), none, [], false⟩])
    (.seq (.blk 0 (.seq (.reg [
         ⟨(some 8), .mv (.t 1), none, [], false⟩,
         ⟨(some 9), .bin .eql (.t 8) (.k (.int .i64 0)), none, [], false⟩,
         ⟨(some 7), .mv (.t 9), none, [], false⟩])
       (.cond (.t 7) (.seq (.reg [
           ⟨(some 4), .mv (.k (.int .i64 0)), none, [], false⟩,
           ⟨(some 5), .mv (.k (.int .i64 10)), none, [], false⟩])
         (.ret))
        (.seq (.reg [
           ⟨(some 11), .mv (.t 0), none, [], false⟩,
           ⟨(some 12), .bin .eql (.t 11) (.k (.int .i64 (-9223372036854775808))), none, [], false⟩,
           ⟨(some 13), .mv (.t 12), none, [], false⟩,
           ⟨(some 14), .mv (.t 1), (some (13, true)), [], false⟩,
           ⟨(some 15), .bin .eql (.t 14) (.k (.int .i64 (-1))), (some (13, true)), [], false⟩,
           ⟨(some 16), .pick (.t 13) (.t 15) (.k (.bool false)), none, [], false⟩,
           ⟨(some 10), .mv (.t 16), none, [], false⟩])
         (.cond (.t 10) (.seq (.reg [
             ⟨(some 4), .mv (.k (.int .i64 0)), none, [], false⟩,
             ⟨(some 5), .mv (.k (.int .i64 2)), none, [], false⟩])
           (.ret))
          (.skip))))))
     (.seq (.reg [
        ⟨(some 17), .mv (.t 0), none, [], false⟩,
        ⟨(some 18), .mv (.t 1), none, [], false⟩,
        ⟨(some 19), .bin .quo (.t 17) (.t 18), none, [], false⟩,
        ⟨(some 6), .mv (.t 19), none, [], false⟩])
      (.seq (.seq (.reg [
          ⟨(some 20), .mv (.t 0), none, [], false⟩,
          ⟨(some 21), .mv (.t 1), none, [], false⟩,
          ⟨(some 22), .bin .rem (.t 20) (.t 21), none, [], false⟩,
          ⟨(some 23), .bin .neq (.t 22) (.k (.int .i64 0)), none, [], false⟩,
          ⟨(some 24), .mv (.t 23), none, [], false⟩,
          ⟨(some 25), .mv (.t 0), (some (24, true)), [], false⟩,
          ⟨(some 26), .bin .lss (.t 25) (.k (.int .i64 0)), (some (24, true)), [], false⟩,
          ⟨(some 27), .mv (.t 1), (some (24, true)), [], false⟩,
          ⟨(some 28), .bin .lss (.t 27) (.k (.int .i64 0)), (some (24, true)), [], false⟩,
          ⟨(some 29), .eqs true none (.t 26) (.t 28), (some (24, true)), [], false⟩,
          ⟨(some 30), .pick (.t 24) (.t 29) (.k (.bool false)), none, [], false⟩])
        (.cond (.t 30) (.reg [
           ⟨(some 31), .mv (.t 6), none, [], false⟩,
           ⟨(some 32), .bin .sub (.t 31) (.k (.int .i64 1)), none, [], false⟩,
           ⟨(some 6), .mv (.t 32), none, [], false⟩])
         (.skip)))
       (.seq (.reg [
          ⟨(some 33), .mv (.t 6), none, [], false⟩,
          ⟨(some 4), .mv (.t 33), none, [], false⟩,
          ⟨(some 5), .mv (.k (.int .i64 0)), none, [], false⟩])
        (.ret)))))
/-- skyway/num.DivUp -/
def c50 : CF where
  np := 2
  nt := 26
  res := [.t 4, .t 5]
  code := .seq (.reg [
      ⟨(some 4), .mv (.k (.int .i64 0)), none, [], false⟩,
      ⟨(some 5), .mv (.k (.int .i64 0)), none, [], false⟩])
    (.seq (.reg [
       ⟨(some 9), .mv (.t 0), none, [], false⟩,
       ⟨(some 10), .mv (.t 1), none, [], false⟩,
       ⟨(some 11), .call (.k (.fn 53 [])) [(.t 9), (.t 10)], none, [], false⟩,
       ⟨(some 8), .mv (.t 11), none, [], false⟩,
       ⟨(some 12), .ext (.t 8) 0, none, [], false⟩,
       ⟨(some 13), .ext (.t 8) 1, none, [], false⟩,
       ⟨(some 6), .mv (.t 12), none, [], false⟩,
       ⟨(some 7), .mv (.t 13), none, [], false⟩])
     (.seq (.seq (.reg [
         ⟨(some 14), .mv (.t 7), none, [], false⟩,
         ⟨(some 15), .bin .eql (.t 14) (.k (.int .i64 0)), none, [], false⟩,
         ⟨(some 16), .mv (.t 15), none, [], false⟩,
         ⟨(some 17), .mv (.t 0), (some (16, true)), [], false⟩,
         ⟨(some 18), .mv (.t 1), (some (16, true)), [], false⟩,
         ⟨(some 19), .bin .rem (.t 17) (.t 18), (some (16, true)), [], false⟩,
         ⟨(some 20), .bin .neq (.t 19) (.k (.int .i64 0)), (some (16, true)), [], false⟩,
         ⟨(some 21), .pick (.t 16) (.t 20) (.k (.bool false)), none, [], false⟩])
       (.cond (.t 21) (.reg [
          ⟨(some 22), .mv (.t 6), none, [], false⟩,
          ⟨(some 23), .bin .add (.t 22) (.k (.int .i64 1)), none, [], false⟩,
          ⟨(some 6), .mv (.t 23), none, [], false⟩])
        (.skip)))
      (.seq (.reg [
         ⟨(some 24), .mv (.t 6), none, [], false⟩,
         ⟨(some 25), .mv (.t 7), none, [], false⟩,
         ⟨(some 4), .mv (.t 24), none, [], false⟩,
         ⟨(some 5), .mv (.t 25), none, [], false⟩])
       (.ret))))
/-- skyway/radar.Error -/
def c22 : CF where
  np := 2
  nt := 42
  res := [.t 4, .t 5]
  code := .seq (.reg [
      ⟨(some 2), .box (.t 0), none, [], false⟩,
      ⟨(some 4), .mv (.k (.int .i64 0)), none, [], false⟩,
      ⟨(some 5), .mv (.k (.int .i64 0)), none, [], false⟩])
    (.seq (.seq (.reg [
        ⟨(some 11), .ldn 6 (.t 2), none, [], false⟩,
        ⟨(some 12), .call (.k (.fn 49 [])) [(.t 11)], none, [], false⟩,
        ⟨(some 6), .mv (.t 12), none, [], false⟩])
      (.seq (.reg [
         ⟨(some 13), .mv (.t 6), none, [], false⟩,
         ⟨(some 14), .bin .neq (.t 13) (.k (.int .i64 0)), none, [], false⟩])
       (.cond (.t 14) (.seq (.reg [
           ⟨(some 15), .mv (.t 6), none, [], false⟩,
           ⟨(some 4), .mv (.k (.int .i64 0)), none, [], false⟩,
           ⟨(some 5), .mv (.t 15), none, [], false⟩])
         (.ret))
        (.skip))))
     (.seq (.seq (.reg [
         ⟨(some 16), .mv (.t 1), none, [], false⟩,
         ⟨(some 17), .bin .lss (.t 16) (.k (.int .i64 0)), none, [], false⟩,
         ⟨(some 18), .mv (.t 17), none, [], false⟩,
         ⟨(some 19), .mv (.t 1), (some (18, false)), [], false⟩,
         ⟨(some 20), .bin .gtr (.t 19) (.k (.int .i64 2000000)), (some (18, false)), [], false⟩,
         ⟨(some 21), .pick (.t 18) (.k (.bool true)) (.t 20), none, [], false⟩])
       (.cond (.t 21) (.seq (.reg [
           ⟨(some 4), .mv (.k (.int .i64 0)), none, [], false⟩,
           ⟨(some 5), .mv (.k (.int .i64 4)), none, [], false⟩])
         (.ret))
        (.skip)))
      (.seq (.reg [
         ⟨(some 23), .mv (.t 1), none, [], false⟩,
         ⟨(some 24), .fad 5 (.t 2), none, [], false⟩,
         ⟨(some 25), .ld1 (.t 24), none, [], false⟩,
         ⟨(some 26), .bin .mul (.t 23) (.t 25), none, [], false⟩,
         ⟨(some 27), .call (.k (.fn 50 [])) [(.t 26), (.k (.int .i64 651))], none, [], false⟩,
         ⟨(some 22), .mv (.t 27), none, [], false⟩,
         ⟨(some 28), .ext (.t 22) 0, none, [], false⟩,
         ⟨(some 29), .ext (.t 22) 1, none, [], false⟩,
         ⟨(some 7), .mv (.t 28), none, [], false⟩,
         ⟨(some 8), .mv (.t 29), none, [], false⟩])
       (.seq (.reg [
          ⟨(some 31), .mv (.t 1), none, [], false⟩,
          ⟨(some 32), .call (.k (.fn 50 [])) [(.t 31), (.k (.int .i64 23170))], none, [], false⟩,
          ⟨(some 30), .mv (.t 32), none, [], false⟩,
          ⟨(some 33), .ext (.t 30) 0, none, [], false⟩,
          ⟨(some 34), .ext (.t 30) 1, none, [], false⟩,
          ⟨(some 9), .mv (.t 33), none, [], false⟩,
          ⟨(some 10), .mv (.t 34), none, [], false⟩])
        (.seq (.reg [
           ⟨(some 35), .fad 4 (.t 2), none, [], false⟩,
           ⟨(some 36), .ld1 (.t 35), none, [], false⟩,
           ⟨(some 37), .mv (.t 7), none, [], false⟩,
           ⟨(some 38), .bin .add (.t 36) (.t 37), none, [], false⟩,
           ⟨(some 39), .mv (.t 9), none, [], false⟩,
           ⟨(some 40), .bin .add (.t 38) (.t 39), none, [], false⟩,
           ⟨(some 41), .bin .add (.t 40) (.k (.int .i64 2)), none, [], false⟩,
           ⟨(some 4), .mv (.t 41), none, [], false⟩,
           ⟨(some 5), .mv (.k (.int .i64 0)), none, [], false⟩])
         (.ret))))))
/-- skyway/skywaykeep2.RadarGrows -/
def c7 : CF where
  np := 3
  nt := 55
  res := [.t 6]
  code := .seq (.reg [
      ⟨(some 3), .box (.t 0), none, [], false⟩,
      ⟨(some 6), .mv (.k (.bool false)), none, [], false⟩])
    (.seq (.seq (.reg [
        ⟨(some 14), .call (.k (.fn 23 [])) [], none, [], false⟩,
        ⟨(some 15), .call (.k (.fn 22 [])) [(.t 14), (.k (.int .i64 0))], none, [], false⟩,
        ⟨(some 13), .mv (.t 15), none, [], false⟩,
        ⟨(some 16), .ext (.t 13) 0, none, [], false⟩,
        ⟨(some 17), .ext (.t 13) 1, none, [], false⟩,
        ⟨(some 7), .mv (.t 16), none, [], false⟩,
        ⟨(some 8), .mv (.t 17), none, [], false⟩])
      (.seq (.reg [
         ⟨(some 18), .mv (.t 8), none, [], false⟩,
         ⟨(some 19), .bin .neq (.t 18) (.k (.int .i64 0)), none, [], false⟩,
         ⟨(some 20), .mv (.t 19), none, [], false⟩,
         ⟨(some 21), .mv (.t 7), (some (20, false)), [], false⟩,
         ⟨(some 22), .bin .neq (.t 21) (.k (.int .i64 3)), (some (20, false)), [], false⟩,
         ⟨(some 23), .pick (.t 20) (.k (.bool true)) (.t 22), none, [], false⟩])
       (.cond (.t 23) (.seq (.reg [
           ⟨(some 6), .mv (.k (.bool false)), none, [], false⟩])
         (.ret))
        (.skip))))
     (.seq (.reg [
        ⟨(some 25), .ldn 6 (.t 3), none, [], false⟩,
        ⟨(some 26), .mv (.t 1), none, [], false⟩,
        ⟨(some 27), .call (.k (.fn 22 [])) [(.t 25), (.t 26)], none, [], false⟩,
        ⟨(some 24), .mv (.t 27), none, [], false⟩,
        ⟨(some 28), .ext (.t 24) 0, none, [], false⟩,
        ⟨(some 29), .ext (.t 24) 1, none, [], false⟩,
        ⟨(some 9), .mv (.t 28), none, [], false⟩,
        ⟨(some 10), .mv (.t 29), none, [], false⟩])
      (.seq (.reg [
         ⟨(some 31), .ldn 6 (.t 3), none, [], false⟩,
         ⟨(some 32), .mv (.t 2), none, [], false⟩,
         ⟨(some 33), .call (.k (.fn 22 [])) [(.t 31), (.t 32)], none, [], false⟩,
         ⟨(some 30), .mv (.t 33), none, [], false⟩,
         ⟨(some 34), .ext (.t 30) 0, none, [], false⟩,
         ⟨(some 35), .ext (.t 30) 1, none, [], false⟩,
         ⟨(some 11), .mv (.t 34), none, [], false⟩,
         ⟨(some 12), .mv (.t 35), none, [], false⟩])
       (.seq (.reg [
          ⟨(some 36), .mv (.t 10), none, [], false⟩,
          ⟨(some 37), .mv (.t 12), none, [], false⟩,
          ⟨(some 38), .mks [.int .i64 0, .int .i64 0] 1 2 [(0, 1, (.t 36)), (1, 1, (.t 37))], none, [], false⟩,
          ⟨(some 39), .call (.k (.fn 16 [])) [(.t 38)], none, [], false⟩,
          ⟨(some 40), .un .not (.t 39), none, [], false⟩,
          ⟨(some 41), .mv (.t 40), none, [], false⟩,
          ⟨(some 42), .mv (.t 9), (some (41, false)), [], false⟩,
          ⟨(some 43), .mv (.t 11), (some (41, false)), [], false⟩,
          ⟨(some 44), .bin .leq (.t 42) (.t 43), (some (41, false)), [], false⟩,
          ⟨(some 45), .mv (.t 1), (some (41, false)), [], false⟩,
          ⟨(some 46), .mv (.t 2), (some (41, false)), [], false⟩,
          ⟨(some 47), .bin .leq (.t 45) (.t 46), (some (41, false)), [], false⟩,
          ⟨(some 48), .eqs false none (.t 44) (.t 47), (some (41, false)), [], false⟩,
          ⟨(some 49), .pick (.t 41) (.k (.bool true)) (.t 48), none, [], false⟩,
          ⟨(some 50), .mv (.t 49), none, [], false⟩,
          ⟨(some 51), .mv (.t 9), (some (50, false)), [], false⟩,
          ⟨(some 52), .mv (.t 11), (some (50, false)), [], false⟩,
          ⟨(some 53), .bin .eql (.t 51) (.t 52), (some (50, false)), [], false⟩,
          ⟨(some 54), .pick (.t 50) (.k (.bool true)) (.t 53), none, [], false⟩,
          ⟨(some 6), .mv (.t 54), none, [], false⟩])
        (.ret)))))
/-- skyway/filter.Check$1 -/
def c81 : CF where
  np := 1
  nt := 9
  res := [.t 2]
  code := .seq (.reg [
      ⟨(some 2), .mv (.k (.bool false)), none, [], false⟩])
    (.seq (.reg [
       ⟨(some 3), .mv (.t 0), none, [], false⟩,
       ⟨(some 4), .bin .lss (.t 3) (.k (.int .i64 (-12800))), none, [], false⟩,
       ⟨(some 5), .mv (.t 4), none, [], false⟩,
       ⟨(some 6), .mv (.t 0), (some (5, false)), [], false⟩,
       ⟨(some 7), .bin .gtr (.t 6) (.k (.int .i64 12800)), (some (5, false)), [], false⟩,
       ⟨(some 8), .pick (.t 5) (.k (.bool true)) (.t 7), none, [], false⟩,
       ⟨(some 2), .mv (.t 8), none, [], false⟩])
     (.ret))
/-- skyway/radar.CheckSpot -/
def c56 : CF where
  np := 1
  nt := 47
  res := [.t 2]
  code := .seq (.reg [
      ⟨(some 1), .box (.t 0), none, [], false⟩,
      ⟨(some 2), .mv (.k (.int .i64 0)), none, [], false⟩])
    (.seq (.seq (.reg [
        ⟨(some 3), .fad 0 (.t 1), none, [], false⟩,
        ⟨(some 4), .ld1 (.t 3), none, [], false⟩,
        ⟨(some 5), .bin .lss (.t 4) (.k (.int .i64 0)), none, [], false⟩,
        ⟨(some 6), .mv (.t 5), none, [], false⟩,
        ⟨(some 7), .fad 0 (.t 1), (some (6, false)), [], false⟩,
        ⟨(some 8), .ld1 (.t 7), (some (6, false)), [], false⟩,
        ⟨(some 9), .bin .gtr (.t 8) (.k (.int .i64 200000)), (some (6, false)), [], false⟩,
        ⟨(some 10), .pick (.t 6) (.k (.bool true)) (.t 9), none, [], false⟩,
        ⟨(some 11), .mv (.t 10), none, [], false⟩,
        ⟨(some 12), .fad 1 (.t 1), (some (11, false)), [], false⟩,
        ⟨(some 13), .ldn 2 (.t 12), (some (11, false)), [], false⟩,
        ⟨(some 14), .call (.k (.fn 80 [])) [(.t 13)], (some (11, false)), [], false⟩,
        ⟨(some 15), .un .not (.t 14), (some (11, false)), [], false⟩,
        ⟨(some 16), .pick (.t 11) (.k (.bool true)) (.t 15), none, [], false⟩,
        ⟨(some 17), .mv (.t 16), none, [], false⟩,
        ⟨(some 18), .fad 3 (.t 1), (some (17, false)), [], false⟩,
        ⟨(some 19), .ld1 (.t 18), (some (17, false)), [], false⟩,
        ⟨(some 20), .bin .lss (.t 19) (.k (.int .i64 0)), (some (17, false)), [], false⟩,
        ⟨(some 21), .pick (.t 17) (.k (.bool true)) (.t 20), none, [], false⟩,
        ⟨(some 22), .mv (.t 21), none, [], false⟩,
        ⟨(some 23), .fad 3 (.t 1), (some (22, false)), [], false⟩,
        ⟨(some 24), .ld1 (.t 23), (some (22, false)), [], false⟩,
        ⟨(some 25), .bin .gtr (.t 24) (.k (.int .i64 60000)), (some (22, false)), [], false⟩,
        ⟨(some 26), .pick (.t 22) (.k (.bool true)) (.t 25), none, [], false⟩,
        ⟨(some 27), .mv (.t 26), none, [], false⟩,
        ⟨(some 28), .fad 4 (.t 1), (some (27, false)), [], false⟩,
        ⟨(some 29), .ld1 (.t 28), (some (27, false)), [], false⟩,
        ⟨(some 30), .bin .lss (.t 29) (.k (.int .i64 (-1))), (some (27, false)), [], false⟩,
        ⟨(some 31), .pick (.t 27) (.k (.bool true)) (.t 30), none, [], false⟩,
        ⟨(some 32), .mv (.t 31), none, [], false⟩,
        ⟨(some 33), .fad 4 (.t 1), (some (32, false)), [], false⟩,
        ⟨(some 34), .ld1 (.t 33), (some (32, false)), [], false⟩,
        ⟨(some 35), .bin .gtr (.t 34) (.k (.int .i64 4095)), (some (32, false)), [], false⟩,
        ⟨(some 36), .pick (.t 32) (.k (.bool true)) (.t 35), none, [], false⟩,
        ⟨(some 37), .mv (.t 36), none, [], false⟩,
        ⟨(some 38), .fad 5 (.t 1), (some (37, false)), [], false⟩,
        ⟨(some 39), .ld1 (.t 38), (some (37, false)), [], false⟩,
        ⟨(some 40), .bin .lss (.t 39) (.k (.int .i64 0)), (some (37, false)), [], false⟩,
        ⟨(some 41), .pick (.t 37) (.k (.bool true)) (.t 40), none, [], false⟩,
        ⟨(some 42), .mv (.t 41), none, [], false⟩,
        ⟨(some 43), .fad 5 (.t 1), (some (42, false)), [], false⟩,
        ⟨(some 44), .ld1 (.t 43), (some (42, false)), [], false⟩,
        ⟨(some 45), .bin .gtr (.t 44) (.k (.int .i64 1000000)), (some (42, false)), [], false⟩,
        ⟨(some 46), .pick (.t 42) (.k (.bool true)) (.t 45), none, [], false⟩])
      (.cond (.t 46) (.seq (.reg [
          ⟨(some 2), .mv (.k (.int .i64 4)), none, [], false⟩])
        (.ret))
       (.skip)))
     (.seq (.reg [
        ⟨(some 2), .mv (.k (.int .i64 0)), none, [], false⟩])
      (.ret)))
/-- skyway/filter.Check -/
def c51 : CF where
  np := 1
  nt := 127
  res := [.t 2]
  code := .seq (.reg [
      ⟨(some 1), .box (.t 0), none, [], false⟩,
      ⟨(some 2), .mv (.k (.int .i64 0)), none, [], false⟩])
    (.seq (.reg [
       ⟨(some 6), .fad 0 (.t 1), none, [], false⟩,
       ⟨(some 7), .ldn 13 (.t 6), none, [], false⟩,
       ⟨(some 3), .new [.int .i64 0, .int .i64 0, .int .i64 0, .int .i64 0, .int .i64 0, .int .i64 0, .int .i64 0, .int .i64 0, .int .i64 0, .int .i64 0, .int .i64 0, .int .i64 0, .int .i64 0], none, [], false⟩,
       ⟨none, .st 13 (.t 3) (.t 7), none, [], false⟩])
     (.seq (.reg [
        ⟨(some 4), .mv (.k (.fn 81 [])), none, [], false⟩])
      (.seq (.blk 0 (.seq (.seq (.reg [
            ⟨(some 9), .fad 2 (.t 3), none, [], false⟩,
            ⟨(some 10), .ld1 (.t 9), none, [], false⟩,
            ⟨(some 11), .bin .lss (.t 10) (.k (.int .i64 0)), none, [], false⟩,
            ⟨(some 12), .mv (.t 11), none, [], false⟩,
            ⟨(some 13), .fad 2 (.t 3), (some (12, false)), [], false⟩,
            ⟨(some 14), .ld1 (.t 13), (some (12, false)), [], false⟩,
            ⟨(some 15), .bin .gtr (.t 14) (.k (.int .i64 200000)), (some (12, false)), [], false⟩,
            ⟨(some 16), .pick (.t 12) (.k (.bool true)) (.t 15), none, [], false⟩,
            ⟨(some 17), .mv (.t 16), none, [], false⟩,
            ⟨(some 18), .fad 3 (.t 3), (some (17, false)), [], false⟩,
            ⟨(some 19), .fad 0 (.t 18), (some (17, false)), [], false⟩,
            ⟨(some 20), .ld1 (.t 19), (some (17, false)), [], false⟩,
            ⟨(some 21), .bin .lss (.t 20) (.k (.int .i64 (-1000000))), (some (17, false)), [], false⟩,
            ⟨(some 22), .pick (.t 17) (.k (.bool true)) (.t 21), none, [], false⟩,
            ⟨(some 23), .mv (.t 22), none, [], false⟩,
            ⟨(some 24), .fad 3 (.t 3), (some (23, false)), [], false⟩,
            ⟨(some 25), .fad 0 (.t 24), (some (23, false)), [], false⟩,
            ⟨(some 26), .ld1 (.t 25), (some (23, false)), [], false⟩,
            ⟨(some 27), .bin .gtr (.t 26) (.k (.int .i64 1000000)), (some (23, false)), [], false⟩,
            ⟨(some 28), .pick (.t 23) (.k (.bool true)) (.t 27), none, [], false⟩,
            ⟨(some 29), .mv (.t 28), none, [], false⟩,
            ⟨(some 30), .fad 3 (.t 3), (some (29, false)), [], false⟩,
            ⟨(some 31), .fad 1 (.t 30), (some (29, false)), [], false⟩,
            ⟨(some 32), .ld1 (.t 31), (some (29, false)), [], false⟩,
            ⟨(some 33), .bin .lss (.t 32) (.k (.int .i64 (-1000000))), (some (29, false)), [], false⟩,
            ⟨(some 34), .pick (.t 29) (.k (.bool true)) (.t 33), none, [], false⟩,
            ⟨(some 35), .mv (.t 34), none, [], false⟩,
            ⟨(some 36), .fad 3 (.t 3), (some (35, false)), [], false⟩,
            ⟨(some 37), .fad 1 (.t 36), (some (35, false)), [], false⟩,
            ⟨(some 38), .ld1 (.t 37), (some (35, false)), [], false⟩,
            ⟨(some 39), .bin .gtr (.t 38) (.k (.int .i64 1000000)), (some (35, false)), [], false⟩,
            ⟨(some 40), .pick (.t 35) (.k (.bool true)) (.t 39), none, [], false⟩,
            ⟨(some 8), .mv (.t 40), none, [], false⟩])
          (.cond (.t 8) (.skip)
           (.seq (.reg [
              ⟨(some 41), .mv (.t 4), none, [], false⟩,
              ⟨(some 42), .fad 5 (.t 3), none, [], false⟩,
              ⟨(some 43), .fad 0 (.t 42), none, [], false⟩,
              ⟨(some 44), .ld1 (.t 43), none, [], false⟩,
              ⟨(some 45), .call (.t 41) [(.t 44)], none, [], false⟩,
              ⟨(some 46), .mv (.t 45), none, [], false⟩,
              ⟨(some 47), .mv (.t 4), (some (46, false)), [], false⟩,
              ⟨(some 48), .fad 5 (.t 3), (some (46, false)), [], false⟩,
              ⟨(some 49), .fad 1 (.t 48), (some (46, false)), [], false⟩,
              ⟨(some 50), .ld1 (.t 49), (some (46, false)), [], false⟩,
              ⟨(some 51), .call (.t 47) [(.t 50)], (some (46, false)), [], false⟩,
              ⟨(some 52), .pick (.t 46) (.k (.bool true)) (.t 51), none, [], false⟩,
              ⟨(some 8), .mv (.t 52), none, [], false⟩])
            (.cond (.t 8) (.skip)
             (.seq (.reg [
                ⟨(some 53), .fad 7 (.t 3), none, [], false⟩,
                ⟨(some 54), .ld1 (.t 53), none, [], false⟩,
                ⟨(some 55), .bin .lss (.t 54) (.k (.int .i64 0)), none, [], false⟩,
                ⟨(some 56), .mv (.t 55), none, [], false⟩,
                ⟨(some 57), .fad 7 (.t 3), (some (56, false)), [], false⟩,
                ⟨(some 58), .ld1 (.t 57), (some (56, false)), [], false⟩,
                ⟨(some 59), .bin .gtr (.t 58) (.k (.int .i64 60000)), (some (56, false)), [], false⟩,
                ⟨(some 60), .pick (.t 56) (.k (.bool true)) (.t 59), none, [], false⟩,
                ⟨(some 8), .mv (.t 60), none, [], false⟩])
              (.cond (.t 8) (.skip)
               (.seq (.reg [
                  ⟨(some 61), .fad 8 (.t 3), none, [], false⟩,
                  ⟨(some 62), .ld1 (.t 61), none, [], false⟩,
                  ⟨(some 63), .bin .lss (.t 62) (.k (.int .i64 (-3200))), none, [], false⟩,
                  ⟨(some 64), .mv (.t 63), none, [], false⟩,
                  ⟨(some 65), .fad 8 (.t 3), (some (64, false)), [], false⟩,
                  ⟨(some 66), .ld1 (.t 65), (some (64, false)), [], false⟩,
                  ⟨(some 67), .bin .gtr (.t 66) (.k (.int .i64 3200)), (some (64, false)), [], false⟩,
                  ⟨(some 68), .pick (.t 64) (.k (.bool true)) (.t 67), none, [], false⟩,
                  ⟨(some 8), .mv (.t 68), none, [], false⟩])
                (.cond (.t 8) (.skip)
                 (.seq (.reg [
                    ⟨(some 69), .fad 9 (.t 3), none, [], false⟩,
                    ⟨(some 70), .ld1 (.t 69), none, [], false⟩,
                    ⟨(some 71), .bin .lss (.t 70) (.k (.int .i64 0)), none, [], false⟩,
                    ⟨(some 72), .mv (.t 71), none, [], false⟩,
                    ⟨(some 73), .fad 9 (.t 3), (some (72, false)), [], false⟩,
                    ⟨(some 74), .ld1 (.t 73), (some (72, false)), [], false⟩,
                    ⟨(some 75), .bin .gtr (.t 74) (.k (.int .i64 4000000)), (some (72, false)), [], false⟩,
                    ⟨(some 76), .pick (.t 72) (.k (.bool true)) (.t 75), none, [], false⟩,
                    ⟨(some 8), .mv (.t 76), none, [], false⟩])
                  (.cond (.t 8) (.skip)
                   (.seq (.reg [
                      ⟨(some 77), .fad 10 (.t 3), none, [], false⟩,
                      ⟨(some 78), .ld1 (.t 77), none, [], false⟩,
                      ⟨(some 79), .bin .lss (.t 78) (.k (.int .i64 (-1))), none, [], false⟩,
                      ⟨(some 80), .mv (.t 79), none, [], false⟩,
                      ⟨(some 81), .fad 10 (.t 3), (some (80, false)), [], false⟩,
                      ⟨(some 82), .ld1 (.t 81), (some (80, false)), [], false⟩,
                      ⟨(some 83), .bin .gtr (.t 82) (.k (.int .i64 4095)), (some (80, false)), [], false⟩,
                      ⟨(some 84), .pick (.t 80) (.k (.bool true)) (.t 83), none, [], false⟩,
                      ⟨(some 8), .mv (.t 84), none, [], false⟩])
                    (.cond (.t 8) (.skip)
                     (.seq (.reg [
                        ⟨(some 85), .fad 13 (.t 1), none, [], false⟩,
                        ⟨(some 86), .ld1 (.t 85), none, [], false⟩,
                        ⟨(some 87), .bin .lss (.t 86) (.k (.int .i64 0)), none, [], false⟩,
                        ⟨(some 88), .mv (.t 87), none, [], false⟩,
                        ⟨(some 89), .fad 13 (.t 1), (some (88, false)), [], false⟩,
                        ⟨(some 90), .ld1 (.t 89), (some (88, false)), [], false⟩,
                        ⟨(some 91), .bin .gtr (.t 90) (.k (.int .i64 409600)), (some (88, false)), [], false⟩,
                        ⟨(some 92), .pick (.t 88) (.k (.bool true)) (.t 91), none, [], false⟩,
                        ⟨(some 8), .mv (.t 92), none, [], false⟩])
                      (.cond (.t 8) (.skip)
                       (.reg [
                         ⟨(some 93), .fad 0 (.t 3), none, [], false⟩,
                         ⟨(some 94), .ld1 (.t 93), none, [], false⟩,
                         ⟨(some 95), .bin .lss (.t 94) (.k (.int .i64 0)), none, [], false⟩,
                         ⟨(some 96), .mv (.t 95), none, [], false⟩,
                         ⟨(some 97), .fad 11 (.t 3), (some (96, false)), [], false⟩,
                         ⟨(some 98), .ld1 (.t 97), (some (96, false)), [], false⟩,
                         ⟨(some 99), .bin .lss (.t 98) (.k (.int .i64 0)), (some (96, false)), [], false⟩,
                         ⟨(some 100), .pick (.t 96) (.k (.bool true)) (.t 99), none, [], false⟩,
                         ⟨(some 101), .mv (.t 100), none, [], false⟩,
                         ⟨(some 102), .fad 12 (.t 3), (some (101, false)), [], false⟩,
                         ⟨(some 103), .ld1 (.t 102), (some (101, false)), [], false⟩,
                         ⟨(some 104), .bin .lss (.t 103) (.k (.int .i64 0)), (some (101, false)), [], false⟩,
                         ⟨(some 105), .pick (.t 101) (.k (.bool true)) (.t 104), none, [], false⟩,
                         ⟨(some 8), .mv (.t 105), none, [], false⟩])))))))))))))))
         (.cond (.t 8) (.seq (.reg [
             ⟨(some 2), .mv (.k (.int .i64 4)), none, [], false⟩])
           (.ret))
          (.seq (.reg [
             ⟨(some 107), .fad 1 (.t 3), none, [], false⟩,
             ⟨(some 108), .ld1 (.t 107), none, [], false⟩,
             ⟨(some 109), .bin .lss (.t 108) (.k (.int .i64 0)), none, [], false⟩,
             ⟨(some 110), .mv (.t 109), none, [], false⟩,
             ⟨(some 111), .fad 1 (.t 3), (some (110, false)), [], false⟩,
             ⟨(some 112), .ld1 (.t 111), (some (110, false)), [], false⟩,
             ⟨(some 113), .bin .gtr (.t 112) (.k (.int .i64 2)), (some (110, false)), [], false⟩,
             ⟨(some 114), .pick (.t 110) (.k (.bool true)) (.t 113), none, [], false⟩,
             ⟨(some 106), .mv (.t 114), none, [], false⟩])
           (.cond (.t 106) (.seq (.reg [
               ⟨(some 2), .mv (.k (.int .i64 1)), none, [], false⟩])
             (.ret))
            (.skip))))))
       (.seq (.seq (.reg [
           ⟨(some 115), .fad 14 (.t 1), none, [], false⟩,
           ⟨(some 116), .ldn 6 (.t 115), none, [], false⟩,
           ⟨(some 117), .call (.k (.fn 56 [])) [(.t 116)], none, [], false⟩,
           ⟨(some 5), .mv (.t 117), none, [], false⟩])
         (.seq (.reg [
            ⟨(some 118), .mv (.t 5), none, [], false⟩,
            ⟨(some 119), .bin .neq (.t 118) (.k (.int .i64 0)), none, [], false⟩])
          (.cond (.t 119) (.seq (.reg [
              ⟨(some 120), .mv (.t 5), none, [], false⟩,
              ⟨(some 2), .mv (.t 120), none, [], false⟩])
            (.ret))
           (.skip))))
        (.seq (.seq (.reg [
            ⟨(some 121), .fad 14 (.t 1), none, [], false⟩,
            ⟨(some 122), .fad 0 (.t 121), none, [], false⟩,
            ⟨(some 123), .ld1 (.t 122), none, [], false⟩,
            ⟨(some 124), .fad 2 (.t 3), none, [], false⟩,
            ⟨(some 125), .ld1 (.t 124), none, [], false⟩,
            ⟨(some 126), .bin .gtr (.t 123) (.t 125), none, [], false⟩])
          (.cond (.t 126) (.seq (.reg [
              ⟨(some 2), .mv (.k (.int .i64 12)), none, [], false⟩])
            (.ret))
           (.skip)))
         (.seq (.reg [
            ⟨(some 2), .mv (.k (.int .i64 0)), none, [], false⟩])
          (.ret)))))))
/-- skyway/coast.Miss -/
def c24 : CF where
  np := 2
  nt := 40
  res := [.cn 20 4, .t 5, .t 6]
  code := .seq (.reg [
      ⟨(some 2), .box (.t 0), none, [], false⟩,
      ⟨(some 4), .new [.int .i64 0, .int .i64 0, .int .i64 0, .int .i64 0, .int .i64 0, .int .i64 0, .int .i64 0, .int .i64 0, .int .i64 0, .int .i64 0, .int .i64 0, .int .i64 0, .int .i64 0, .int .i64 0, .int .i64 0, .int .i64 0, .int .i64 0, .int .i64 0, .int .i64 0, .int .i64 0], none, [], false⟩,
      ⟨(some 5), .mv (.k (.bool false)), none, [], false⟩,
      ⟨(some 6), .mv (.k (.int .i64 0)), none, [], false⟩])
    (.seq (.seq (.reg [
        ⟨(some 8), .ldn 20 (.t 2), none, [], false⟩,
        ⟨(some 9), .call (.k (.fn 51 [])) [(.t 8)], none, [], false⟩,
        ⟨(some 7), .mv (.t 9), none, [], false⟩])
      (.seq (.reg [
         ⟨(some 10), .mv (.t 7), none, [], false⟩,
         ⟨(some 11), .bin .neq (.t 10) (.k (.int .i64 0)), none, [], false⟩])
       (.cond (.t 11) (.seq (.reg [
           ⟨(some 12), .mk [.int .i64 0, .int .i64 0, .int .i64 0, .int .i64 0, .int .i64 0, .int .i64 0, .int .i64 0, .int .i64 0, .int .i64 0, .int .i64 0, .int .i64 0, .int .i64 0, .int .i64 0, .int .i64 0, .int .i64 0, .int .i64 0, .int .i64 0, .int .i64 0, .int .i64 0, .int .i64 0] [], none, [], false⟩,
           ⟨(some 13), .mv (.t 7), none, [], false⟩,
           ⟨none, .st 20 (.t 4) (.t 12), none, [], false⟩,
           ⟨(some 5), .mv (.k (.bool false)), none, [], false⟩,
           ⟨(some 6), .mv (.t 13), none, [], false⟩])
         (.ret))
        (.skip))))
     (.seq (.seq (.reg [
         ⟨(some 14), .mv (.t 1), none, [], false⟩,
         ⟨(some 15), .bin .lss (.t 14) (.k (.int .i64 0)), none, [], false⟩,
         ⟨(some 16), .mv (.t 15), none, [], false⟩,
         ⟨(some 17), .mv (.t 1), (some (16, false)), [], false⟩,
         ⟨(some 18), .bin .gtr (.t 17) (.k (.int .i64 100)), (some (16, false)), [], false⟩,
         ⟨(some 19), .pick (.t 16) (.k (.bool true)) (.t 18), none, [], false⟩])
       (.cond (.t 19) (.seq (.reg [
           ⟨(some 20), .mk [.int .i64 0, .int .i64 0, .int .i64 0, .int .i64 0, .int .i64 0, .int .i64 0, .int .i64 0, .int .i64 0, .int .i64 0, .int .i64 0, .int .i64 0, .int .i64 0, .int .i64 0, .int .i64 0, .int .i64 0, .int .i64 0, .int .i64 0, .int .i64 0, .int .i64 0, .int .i64 0] [], none, [], false⟩,
           ⟨none, .st 20 (.t 4) (.t 20), none, [], false⟩,
           ⟨(some 5), .mv (.k (.bool false)), none, [], false⟩,
           ⟨(some 6), .mv (.k (.int .i64 4)), none, [], false⟩])
         (.ret))
        (.skip)))
      (.seq (.reg [
         ⟨(some 21), .fad 0 (.t 2), none, [], false⟩,
         ⟨(some 22), .fad 12 (.t 21), none, [], false⟩,
         ⟨(some 23), .ld1 (.t 22), none, [], false⟩,
         ⟨(some 24), .mnx false (.t 23) [(.k (.int .i64 100))], none, [], false⟩,
         ⟨(some 25), .bin .add (.t 24) (.k (.int .i64 1)), none, [], false⟩,
         ⟨(some 26), .fad 0 (.t 2), none, [], false⟩,
         ⟨(some 27), .fad 12 (.t 26), none, [], false⟩,
         ⟨none, .st 1 (.t 27) (.t 25), none, [], false⟩])
       (.seq (.seq (.reg [
           ⟨(some 28), .fad 0 (.t 2), none, [], false⟩,
           ⟨(some 29), .fad 1 (.t 28), none, [], false⟩,
           ⟨(some 30), .ld1 (.t 29), none, [], false⟩,
           ⟨(some 31), .bin .eql (.t 30) (.k (.int .i64 1)), none, [], false⟩])
         (.cond (.t 31) (.reg [
            ⟨(some 32), .fad 0 (.t 2), none, [], false⟩,
            ⟨(some 33), .fad 1 (.t 32), none, [], false⟩,
            ⟨none, .st 1 (.t 33) (.k (.int .i64 2)), none, [], false⟩])
          (.skip)))
        (.seq (.reg [
           ⟨(some 34), .ldn 20 (.t 2), none, [], false⟩,
           ⟨(some 35), .fad 0 (.t 2), none, [], false⟩,
           ⟨(some 36), .fad 12 (.t 35), none, [], false⟩,
           ⟨(some 37), .ld1 (.t 36), none, [], false⟩,
           ⟨(some 38), .mv (.t 1), none, [], false⟩,
           ⟨(some 39), .bin .gtr (.t 37) (.t 38), none, [], false⟩,
           ⟨none, .st 20 (.t 4) (.t 34), none, [(.t 36)], false⟩,
           ⟨(some 5), .mv (.t 39), none, [], false⟩,
           ⟨(some 6), .mv (.k (.int .i64 0)), none, [], false⟩])
         (.ret))))))
/-- skyway/skywaykeep2.within -/
def c25 : CF where
  np := 3
  nt := 21
  res := [.t 6]
  code := .seq (.reg [
      ⟨(some 6), .mv (.k (.int .i64 0)), none, [], false⟩])
    (.seq (.reg [
       ⟨(some 8), .mv (.t 2), none, [], false⟩,
       ⟨(some 9), .mv (.t 1), none, [], false⟩,
       ⟨(some 10), .bin .sub (.t 8) (.t 9), none, [], false⟩,
       ⟨(some 11), .bin .add (.t 10) (.k (.int .i64 1)), none, [], false⟩,
       ⟨(some 7), .mv (.t 11), none, [], false⟩])
     (.seq (.reg [
        ⟨(some 12), .mv (.t 1), none, [], false⟩,
        ⟨(some 13), .mv (.t 0), none, [], false⟩,
        ⟨(some 14), .mv (.t 7), none, [], false⟩,
        ⟨(some 15), .bin .rem (.t 13) (.t 14), none, [], false⟩,
        ⟨(some 16), .mv (.t 7), none, [], false⟩,
        ⟨(some 17), .bin .add (.t 15) (.t 16), none, [], false⟩,
        ⟨(some 18), .mv (.t 7), none, [], false⟩,
        ⟨(some 19), .bin .rem (.t 17) (.t 18), none, [], false⟩,
        ⟨(some 20), .bin .add (.t 12) (.t 19), none, [], false⟩,
        ⟨(some 6), .mv (.t 20), none, [], false⟩])
      (.ret)))
/-- skyway/coast.Hit -/
def c26 : CF where
  np := 1
  nt := 20
  res := [.cn 20 2, .t 3]
  code := .seq (.reg [
      ⟨(some 1), .box (.t 0), none, [], false⟩,
      ⟨(some 2), .new [.int .i64 0, .int .i64 0, .int .i64 0, .int .i64 0, .int .i64 0, .int .i64 0, .int .i64 0, .int .i64 0, .int .i64 0, .int .i64 0, .int .i64 0, .int .i64 0, .int .i64 0, .int .i64 0, .int .i64 0, .int .i64 0, .int .i64 0, .int .i64 0, .int .i64 0, .int .i64 0], none, [], false⟩,
      ⟨(some 3), .mv (.k (.int .i64 0)), none, [], false⟩])
    (.seq (.seq (.reg [
        ⟨(some 5), .ldn 20 (.t 1), none, [], false⟩,
        ⟨(some 6), .call (.k (.fn 51 [])) [(.t 5)], none, [], false⟩,
        ⟨(some 4), .mv (.t 6), none, [], false⟩])
      (.seq (.reg [
         ⟨(some 7), .mv (.t 4), none, [], false⟩,
         ⟨(some 8), .bin .neq (.t 7) (.k (.int .i64 0)), none, [], false⟩])
       (.cond (.t 8) (.seq (.reg [
           ⟨(some 9), .mk [.int .i64 0, .int .i64 0, .int .i64 0, .int .i64 0, .int .i64 0, .int .i64 0, .int .i64 0, .int .i64 0, .int .i64 0, .int .i64 0, .int .i64 0, .int .i64 0, .int .i64 0, .int .i64 0, .int .i64 0, .int .i64 0, .int .i64 0, .int .i64 0, .int .i64 0, .int .i64 0] [], none, [], false⟩,
           ⟨(some 10), .mv (.t 4), none, [], false⟩,
           ⟨none, .st 20 (.t 2) (.t 9), none, [], false⟩,
           ⟨(some 3), .mv (.t 10), none, [], false⟩])
         (.ret))
        (.skip))))
     (.seq (.reg [
        ⟨(some 11), .fad 0 (.t 1), none, [], false⟩,
        ⟨(some 12), .fad 12 (.t 11), none, [], false⟩,
        ⟨none, .st 1 (.t 12) (.k (.int .i64 0)), none, [], false⟩])
      (.seq (.seq (.reg [
          ⟨(some 13), .fad 0 (.t 1), none, [], false⟩,
          ⟨(some 14), .fad 1 (.t 13), none, [], false⟩,
          ⟨(some 15), .ld1 (.t 14), none, [], false⟩,
          ⟨(some 16), .bin .eql (.t 15) (.k (.int .i64 2)), none, [], false⟩])
        (.cond (.t 16) (.reg [
           ⟨(some 17), .fad 0 (.t 1), none, [], false⟩,
           ⟨(some 18), .fad 1 (.t 17), none, [], false⟩,
           ⟨none, .st 1 (.t 18) (.k (.int .i64 1)), none, [], false⟩])
         (.skip)))
       (.seq (.reg [
          ⟨(some 19), .ldn 20 (.t 1), none, [], false⟩,
          ⟨none, .st 20 (.t 2) (.t 19), none, [], false⟩,
          ⟨(some 3), .mv (.k (.int .i64 0)), none, [], false⟩])
        (.ret)))))
/-- skyway/skywaykeep2.CoastTurns -/
def c8 : CF where
  np := 2
  nt := 82
  res := [.t 4]
  code := .seq (.reg [
      ⟨(some 2), .box (.t 0), none, [], false⟩,
      ⟨(some 4), .mv (.k (.bool false)), none, [], false⟩])
    (.seq (.reg [
       ⟨(some 18), .mk [.int .i64 0, .int .i64 0, .int .i64 0, .int .i64 0, .int .i64 0, .int .i64 0, .int .i64 0, .int .i64 0, .int .i64 0, .int .i64 0, .int .i64 0, .int .i64 0, .int .i64 0] [(1, 1, (.k (.int .i64 1)))], none, [], false⟩,
       ⟨(some 19), .mk [.int .i64 0, .int .i64 0, .int .i64 0, .int .i64 0, .int .i64 0, .int .i64 0, .int .i64 0, .int .i64 0, .int .i64 0, .int .i64 0, .int .i64 0, .int .i64 0, .int .i64 0, .int .i64 0, .int .i64 0, .int .i64 0, .int .i64 0, .int .i64 0, .int .i64 0, .int .i64 0] [(0, 13, (.t 18))], none, [], false⟩,
       ⟨(some 5), .new [.int .i64 0, .int .i64 0, .int .i64 0, .int .i64 0, .int .i64 0, .int .i64 0, .int .i64 0, .int .i64 0, .int .i64 0, .int .i64 0, .int .i64 0, .int .i64 0, .int .i64 0, .int .i64 0, .int .i64 0, .int .i64 0, .int .i64 0, .int .i64 0, .int .i64 0, .int .i64 0], none, [], false⟩,
       ⟨none, .st 20 (.t 5) (.t 19), none, [], false⟩])
     (.seq (.seq (.reg [
         ⟨(some 21), .ldn 20 (.t 5), none, [], false⟩,
         ⟨(some 22), .call (.k (.fn 24 [])) [(.t 21), (.k (.int .i64 5))], none, [], false⟩,
         ⟨(some 20), .mv (.t 22), none, [], false⟩,
         ⟨(some 23), .ext (.t 20) 0, none, [], false⟩,
         ⟨(some 24), .ext (.t 20) 1, none, [], false⟩,
         ⟨(some 25), .ext (.t 20) 2, none, [], false⟩,
         ⟨(some 6), .new [.int .i64 0, .int .i64 0, .int .i64 0, .int .i64 0, .int .i64 0, .int .i64 0, .int .i64 0, .int .i64 0, .int .i64 0, .int .i64 0, .int .i64 0, .int .i64 0, .int .i64 0, .int .i64 0, .int .i64 0, .int .i64 0, .int .i64 0, .int .i64 0, .int .i64 0, .int .i64 0], none, [], false⟩,
         ⟨none, .st 20 (.t 6) (.t 23), none, [], false⟩,
         ⟨(some 7), .mv (.t 24), none, [], false⟩,
         ⟨(some 8), .mv (.t 25), none, [], false⟩])
       (.seq (.reg [
          ⟨(some 26), .mv (.t 8), none, [], false⟩,
          ⟨(some 27), .bin .neq (.t 26) (.k (.int .i64 0)), none, [], false⟩,
          ⟨(some 28), .mv (.t 27), none, [], false⟩,
          ⟨(some 29), .mv (.t 7), (some (28, false)), [], false⟩,
          ⟨(some 30), .pick (.t 28) (.k (.bool true)) (.t 29), none, [], false⟩,
          ⟨(some 31), .mv (.t 30), none, [], false⟩,
          ⟨(some 32), .fad 0 (.t 6), (some (31, false)), [], false⟩,
          ⟨(some 33), .fad 1 (.t 32), (some (31, false)), [], false⟩,
          ⟨(some 34), .ld1 (.t 33), (some (31, false)), [], false⟩,
          ⟨(some 35), .bin .neq (.t 34) (.k (.int .i64 2)), (some (31, false)), [], false⟩,
          ⟨(some 36), .pick (.t 31) (.k (.bool true)) (.t 35), none, [], false⟩])
        (.cond (.t 36) (.seq (.reg [
            ⟨(some 4), .mv (.k (.bool false)), none, [], false⟩])
          (.ret))
         (.skip))))
      (.seq (.reg [
         ⟨(some 37), .mv (.t 1), none, [], false⟩,
         ⟨(some 38), .call (.k (.fn 25 [])) [(.t 37), (.k (.int .i64 0)), (.k (.int .i64 20))], none, [], false⟩,
         ⟨(some 1), .mv (.t 38), none, [], false⟩])
       (.seq (.reg [
          ⟨(some 40), .ldn 20 (.t 2), none, [], false⟩,
          ⟨(some 41), .call (.k (.fn 26 [])) [(.t 40)], none, [], false⟩,
          ⟨(some 39), .mv (.t 41), none, [], false⟩,
          ⟨(some 42), .ext (.t 39) 0, none, [], false⟩,
          ⟨(some 43), .ext (.t 39) 1, none, [], false⟩,
          ⟨(some 9), .new [.int .i64 0, .int .i64 0, .int .i64 0, .int .i64 0, .int .i64 0, .int .i64 0, .int .i64 0, .int .i64 0, .int .i64 0, .int .i64 0, .int .i64 0, .int .i64 0, .int .i64 0, .int .i64 0, .int .i64 0, .int .i64 0, .int .i64 0, .int .i64 0, .int .i64 0, .int .i64 0], none, [], false⟩,
          ⟨none, .st 20 (.t 9) (.t 42), none, [], false⟩,
          ⟨(some 10), .mv (.t 43), none, [], false⟩])
        (.seq (.seq (.reg [
            ⟨(some 44), .mv (.t 10), none, [], false⟩,
            ⟨(some 45), .bin .neq (.t 44) (.k (.int .i64 0)), none, [], false⟩])
          (.cond (.t 45) (.seq (.reg [
              ⟨(some 46), .ldn 20 (.t 9), none, [], false⟩,
              ⟨(some 47), .mk [.int .i64 0, .int .i64 0, .int .i64 0, .int .i64 0, .int .i64 0, .int .i64 0, .int .i64 0, .int .i64 0, .int .i64 0, .int .i64 0, .int .i64 0, .int .i64 0, .int .i64 0, .int .i64 0, .int .i64 0, .int .i64 0, .int .i64 0, .int .i64 0, .int .i64 0, .int .i64 0] [], none, [], false⟩,
              ⟨(some 48), .eqs false (some [.i, .i, .i, .i, .i, .i, .i, .i, .i, .i, .i, .i, .i, .i, .i, .i, .i, .i, .i, .i]) (.t 46) (.t 47), none, [], false⟩,
              ⟨(some 4), .mv (.t 48), none, [], false⟩])
            (.ret))
           (.skip)))
         (.seq (.reg [
            ⟨(some 49), .ldn 20 (.t 9), none, [], false⟩,
            ⟨(some 11), .new [.int .i64 0, .int .i64 0, .int .i64 0, .int .i64 0, .int .i64 0, .int .i64 0, .int .i64 0, .int .i64 0, .int .i64 0, .int .i64 0, .int .i64 0, .int .i64 0, .int .i64 0, .int .i64 0, .int .i64 0, .int .i64 0, .int .i64 0, .int .i64 0, .int .i64 0, .int .i64 0], none, [], false⟩,
            ⟨none, .st 20 (.t 11) (.t 49), none, [], false⟩,
            ⟨(some 12), .mv (.k (.bool false)), none, [], false⟩])
          (.seq (.seq (.reg [
              ⟨(some 13), .mv (.k (.int .i64 0)), none, [], false⟩])
            (.blk 0 (.loop (.seq (.seq (.reg [
                  ⟨(some 50), .mv (.t 13), none, [], false⟩,
                  ⟨(some 51), .mv (.t 1), none, [], false⟩,
                  ⟨(some 52), .bin .leq (.t 50) (.t 51), none, [], false⟩])
                (.cond (.t 52) (.skip)
                 (.exit 0)))
               (.seq (.blk 1 (.seq (.seq (.reg [
                     ⟨(some 55), .mv (.t 12), none, [], false⟩])
                   (.cond (.t 55) (.seq (.reg [
                       ⟨(some 4), .mv (.k (.bool false)), none, [], false⟩])
                     (.ret))
                    (.skip)))
                  (.seq (.reg [
                     ⟨(some 57), .ldn 20 (.t 11), none, [], false⟩,
                     ⟨(some 58), .mv (.t 1), none, [], false⟩,
                     ⟨(some 59), .call (.k (.fn 24 [])) [(.t 57), (.t 58)], none, [], false⟩,
                     ⟨(some 56), .mv (.t 59), none, [], false⟩,
                     ⟨(some 60), .ext (.t 56) 0, none, [], false⟩,
                     ⟨(some 61), .ext (.t 56) 1, none, [], false⟩,
                     ⟨(some 62), .ext (.t 56) 2, none, [], false⟩,
                     ⟨(some 14), .new [.int .i64 0, .int .i64 0, .int .i64 0, .int .i64 0, .int .i64 0, .int .i64 0, .int .i64 0, .int .i64 0, .int .i64 0, .int .i64 0, .int .i64 0, .int .i64 0, .int .i64 0, .int .i64 0, .int .i64 0, .int .i64 0, .int .i64 0, .int .i64 0, .int .i64 0, .int .i64 0], none, [], false⟩,
                     ⟨none, .st 20 (.t 14) (.t 60), none, [], false⟩,
                     ⟨(some 15), .mv (.t 61), none, [], false⟩,
                     ⟨(some 16), .mv (.t 62), none, [], false⟩])
                   (.seq (.seq (.reg [
                       ⟨(some 63), .mv (.t 16), none, [], false⟩,
                       ⟨(some 64), .bin .neq (.t 63) (.k (.int .i64 0)), none, [], false⟩])
                     (.cond (.t 64) (.seq (.reg [
                         ⟨(some 4), .mv (.k (.bool false)), none, [], false⟩])
                       (.ret))
                      (.skip)))
                    (.reg [
                      ⟨(some 65), .ldn 20 (.t 14), none, [], false⟩,
                      ⟨(some 66), .mv (.t 15), none, [], false⟩,
                      ⟨none, .st 20 (.t 11) (.t 65), none, [], false⟩,
                      ⟨(some 12), .mv (.t 66), none, [], false⟩])))))
                (.reg [
                  ⟨(some 53), .mv (.t 13), none, [], false⟩,
                  ⟨(some 54), .bin .add (.t 53) (.k (.int .i64 1)), none, [], false⟩,
                  ⟨(some 13), .mv (.t 54), none, [], false⟩]))))))
           (.seq (.reg [
              ⟨(some 68), .ldn 20 (.t 11), none, [], false⟩,
              ⟨(some 69), .call (.k (.fn 26 [])) [(.t 68)], none, [], false⟩,
              ⟨(some 67), .mv (.t 69), none, [], false⟩,
              ⟨(some 70), .ext (.t 67) 0, none, [], false⟩,
              ⟨(some 71), .ext (.t 67) 1, none, [], false⟩,
              ⟨(some 17), .new [.int .i64 0, .int .i64 0, .int .i64 0, .int .i64 0, .int .i64 0, .int .i64 0, .int .i64 0, .int .i64 0, .int .i64 0, .int .i64 0, .int .i64 0, .int .i64 0, .int .i64 0, .int .i64 0, .int .i64 0, .int .i64 0, .int .i64 0, .int .i64 0, .int .i64 0, .int .i64 0], none, [], false⟩,
              ⟨none, .st 20 (.t 17) (.t 70), none, [], false⟩,
              ⟨(some 10), .mv (.t 71), none, [], false⟩])
            (.seq (.reg [
               ⟨(some 72), .mv (.t 12), none, [], false⟩,
               ⟨(some 73), .mv (.t 72), none, [], false⟩,
               ⟨(some 74), .mv (.t 10), (some (73, true)), [], false⟩,
               ⟨(some 75), .bin .eql (.t 74) (.k (.int .i64 0)), (some (73, true)), [], false⟩,
               ⟨(some 76), .pick (.t 73) (.t 75) (.k (.bool false)), none, [], false⟩,
               ⟨(some 77), .mv (.t 76), none, [], false⟩,
               ⟨(some 78), .ldn 20 (.t 17), (some (77, true)), [], false⟩,
               ⟨(some 79), .ldn 20 (.t 9), (some (77, true)), [], false⟩,
               ⟨(some 80), .eqs false (some [.i, .i, .i, .i, .i, .i, .i, .i, .i, .i, .i, .i, .i, .i, .i, .i, .i, .i, .i, .i]) (.t 78) (.t 79), (some (77, true)), [], false⟩,
               ⟨(some 81), .pick (.t 77) (.t 80) (.k (.bool false)), none, [], false⟩,
               ⟨(some 4), .mv (.t 81), none, [], false⟩])
             (.ret))))))))))
/-- skyway/climb.Check -/
def c52 : CF where
  np := 1
  nt := 49
  res := [.t 2]
  code := .seq (.reg [
      ⟨(some 2), .mv (.k (.int .i64 0)), none, [], false⟩])
    (.seq (.seq (.reg [
        ⟨(some 5), .mv (.t 0), none, [], false⟩,
        ⟨(some 6), .lenv false (.t 5), none, [], false⟩,
        ⟨(some 7), .bin .gtr (.t 6) (.k (.int .i64 64)), none, [], false⟩])
      (.cond (.t 7) (.seq (.reg [
          ⟨(some 2), .mv (.k (.int .i64 2)), none, [], false⟩])
        (.ret))
       (.skip)))
     (.seq (.seq (.reg [
         ⟨(some 8), .mv (.t 0), none, [], false⟩,
         ⟨(some 9), .lenv false (.t 8), none, [], false⟩,
         ⟨(some 10), .mv (.k (.int .i64 0)), none, [], false⟩])
       (.blk 0 (.loop (.seq (.reg [
            ⟨(some 11), .bin .lss (.t 10) (.t 9), none, [], false⟩])
          (.seq (.cond (.t 11) (.skip)
            (.exit 0))
           (.seq (.blk 1 (.seq (.reg [
                ⟨(some 12), .mv (.t 10), none, [], false⟩,
                ⟨(some 13), .iad 2 (.t 8) (.t 10), none, [], false⟩,
                ⟨(some 14), .ldn 2 (.t 13), none, [], false⟩,
                ⟨(some 4), .new [.int .i64 0, .int .i64 0], none, [], false⟩,
                ⟨(some 3), .mv (.t 12), none, [], false⟩,
                ⟨none, .st 2 (.t 4) (.t 14), none, [], false⟩])
              (.blk 2 (.seq (.reg [
                  ⟨(some 16), .fad 0 (.t 4), none, [], false⟩,
                  ⟨(some 17), .ld1 (.t 16), none, [], false⟩,
                  ⟨(some 18), .bin .lss (.t 17) (.k (.int .i64 0)), none, [], false⟩,
                  ⟨(some 19), .mv (.t 18), none, [], false⟩,
                  ⟨(some 20), .fad 0 (.t 4), (some (19, false)), [], false⟩,
                  ⟨(some 21), .ld1 (.t 20), (some (19, false)), [], false⟩,
                  ⟨(some 22), .bin .gtr (.t 21) (.k (.int .i64 200000)), (some (19, false)), [], false⟩,
                  ⟨(some 23), .pick (.t 19) (.k (.bool true)) (.t 22), none, [], false⟩,
                  ⟨(some 24), .mv (.t 23), none, [], false⟩,
                  ⟨(some 25), .fad 1 (.t 4), (some (24, false)), [], false⟩,
                  ⟨(some 26), .ld1 (.t 25), (some (24, false)), [], false⟩,
                  ⟨(some 27), .bin .lss (.t 26) (.k (.int .i64 0)), (some (24, false)), [], false⟩,
                  ⟨(some 28), .pick (.t 24) (.k (.bool true)) (.t 27), none, [], false⟩,
                  ⟨(some 29), .mv (.t 28), none, [], false⟩,
                  ⟨(some 30), .fad 1 (.t 4), (some (29, false)), [], false⟩,
                  ⟨(some 31), .ld1 (.t 30), (some (29, false)), [], false⟩,
                  ⟨(some 32), .bin .gtr (.t 31) (.k (.int .i64 600)), (some (29, false)), [], false⟩,
                  ⟨(some 33), .pick (.t 29) (.k (.bool true)) (.t 32), none, [], false⟩,
                  ⟨(some 15), .mv (.t 33), none, [], false⟩])
                (.cond (.t 15) (.seq (.reg [
                    ⟨(some 2), .mv (.k (.int .i64 4)), none, [], false⟩])
                  (.ret))
                 (.seq (.reg [
                    ⟨(some 35), .mv (.t 3), none, [], false⟩,
                    ⟨(some 36), .bin .gtr (.t 35) (.k (.int .i64 0)), none, [], false⟩,
                    ⟨(some 37), .mv (.t 36), none, [], false⟩,
                    ⟨(some 38), .fad 0 (.t 4), (some (37, true)), [], false⟩,
                    ⟨(some 39), .ld1 (.t 38), (some (37, true)), [], false⟩,
                    ⟨(some 40), .mv (.t 0), (some (37, true)), [], false⟩,
                    ⟨(some 41), .mv (.t 3), (some (37, true)), [], false⟩,
                    ⟨(some 42), .bin .sub (.t 41) (.k (.int .i64 1)), (some (37, true)), [], false⟩,
                    ⟨(some 43), .iad 2 (.t 40) (.t 42), (some (37, true)), [], false⟩,
                    ⟨(some 44), .fad 0 (.t 43), (some (37, true)), [], false⟩,
                    ⟨(some 45), .ld1 (.t 44), (some (37, true)), [], false⟩,
                    ⟨(some 46), .bin .leq (.t 39) (.t 45), (some (37, true)), [], false⟩,
                    ⟨(some 47), .pick (.t 37) (.t 46) (.k (.bool false)), none, [], false⟩,
                    ⟨(some 34), .mv (.t 47), none, [], false⟩])
                  (.cond (.t 34) (.seq (.reg [
                      ⟨(some 2), .mv (.k (.int .i64 12)), none, [], false⟩])
                    (.ret))
                   (.skip))))))))
            (.reg [
              ⟨(some 48), .bin .add (.t 10) (.k (.int .i64 1)), none, [], false⟩,
              ⟨(some 10), .mv (.t 48), none, [], false⟩])))))))
      (.seq (.reg [
         ⟨(some 2), .mv (.k (.int .i64 0)), none, [], false⟩])
       (.ret))))
/-- skyway/climb.Rates -/
def c27 : CF where
  np := 1
  nt := 80
  res := [.t 2, .t 3, .t 4]
  code := .seq (.reg [
      ⟨(some 2), .mv (.k (.int .i64 0)), none, [], false⟩,
      ⟨(some 3), .mv (.k (.int .i64 0)), none, [], false⟩,
      ⟨(some 4), .mv (.k (.int .i64 0)), none, [], false⟩])
    (.seq (.seq (.reg [
        ⟨(some 18), .mv (.t 0), none, [], false⟩,
        ⟨(some 19), .call (.k (.fn 52 [])) [(.t 18)], none, [], false⟩,
        ⟨(some 5), .mv (.t 19), none, [], false⟩])
      (.seq (.reg [
         ⟨(some 20), .mv (.t 5), none, [], false⟩,
         ⟨(some 21), .bin .neq (.t 20) (.k (.int .i64 0)), none, [], false⟩])
       (.cond (.t 21) (.seq (.reg [
           ⟨(some 22), .mv (.t 5), none, [], false⟩,
           ⟨(some 2), .mv (.k (.int .i64 0)), none, [], false⟩,
           ⟨(some 3), .mv (.k (.int .i64 0)), none, [], false⟩,
           ⟨(some 4), .mv (.t 22), none, [], false⟩])
         (.ret))
        (.skip))))
     (.seq (.reg [
        ⟨(some 6), .mv (.k (.int .i64 (-3200))), none, [], false⟩,
        ⟨(some 7), .mv (.k (.int .i64 3200)), none, [], false⟩])
      (.seq (.seq (.reg [
          ⟨(some 23), .mv (.t 0), none, [], false⟩,
          ⟨(some 24), .lenv false (.t 23), none, [], false⟩,
          ⟨(some 25), .mv (.k (.int .i64 0)), none, [], false⟩])
        (.blk 0 (.loop (.seq (.reg [
             ⟨(some 26), .bin .lss (.t 25) (.t 24), none, [], false⟩])
           (.seq (.cond (.t 26) (.skip)
             (.exit 0))
            (.seq (.blk 1 (.seq (.reg [
                 ⟨(some 27), .mv (.t 25), none, [], false⟩,
                 ⟨(some 28), .iad 2 (.t 23) (.t 25), none, [], false⟩,
                 ⟨(some 29), .ldn 2 (.t 28), none, [], false⟩,
                 ⟨(some 9), .new [.int .i64 0, .int .i64 0], none, [], false⟩,
                 ⟨(some 8), .mv (.t 27), none, [], false⟩,
                 ⟨none, .st 2 (.t 9) (.t 29), none, [], false⟩])
               (.seq (.reg [
                  ⟨(some 30), .mv (.t 0), none, [], false⟩,
                  ⟨(some 31), .mv (.t 8), none, [], false⟩,
                  ⟨(some 32), .slc 2 (.t 30) none (some (.t 31)), none, [], false⟩,
                  ⟨(some 33), .lenv false (.t 32), none, [], false⟩,
                  ⟨(some 34), .mv (.k (.int .i64 0)), none, [], false⟩])
                (.blk 2 (.loop (.seq (.reg [
                     ⟨(some 35), .bin .lss (.t 34) (.t 33), none, [], false⟩])
                   (.seq (.cond (.t 35) (.skip)
                     (.exit 2))
                    (.seq (.blk 3 (.seq (.reg [
                         ⟨(some 36), .iad 2 (.t 32) (.t 34), none, [], false⟩,
                         ⟨(some 37), .ldn 2 (.t 36), none, [], false⟩,
                         ⟨(some 11), .new [.int .i64 0, .int .i64 0], none, [], false⟩,
                         ⟨none, .st 2 (.t 11) (.t 37), none, [], false⟩])
                       (.seq (.reg [
                          ⟨(some 38), .fad 0 (.t 9), none, [], false⟩,
                          ⟨(some 39), .ld1 (.t 38), none, [], false⟩,
                          ⟨(some 40), .fad 0 (.t 11), none, [], false⟩,
                          ⟨(some 41), .ld1 (.t 40), none, [], false⟩,
                          ⟨(some 42), .bin .sub (.t 39) (.t 41), none, [], false⟩,
                          ⟨(some 12), .mv (.t 42), none, [], false⟩])
                        (.seq (.reg [
                           ⟨(some 43), .fad 1 (.t 9), none, [], false⟩,
                           ⟨(some 44), .ld1 (.t 43), none, [], false⟩,
                           ⟨(some 45), .fad 1 (.t 11), none, [], false⟩,
                           ⟨(some 46), .ld1 (.t 45), none, [], false⟩,
                           ⟨(some 47), .bin .sub (.t 44) (.t 46), none, [], false⟩,
                           ⟨(some 48), .bin .mul (.k (.int .i64 100)) (.t 47), none, [], false⟩,
                           ⟨(some 13), .mv (.t 48), none, [], false⟩])
                         (.seq (.reg [
                            ⟨(some 50), .mv (.t 13), none, [], false⟩,
                            ⟨(some 51), .bin .sub (.t 50) (.k (.int .i64 100)), none, [], false⟩,
                            ⟨(some 52), .bin .add (.t 51) (.k (.int .i64 1)), none, [], false⟩,
                            ⟨(some 53), .bin .mul (.k (.int .i64 16)) (.t 52), none, [], false⟩,
                            ⟨(some 54), .mv (.t 12), none, [], false⟩,
                            ⟨(some 55), .call (.k (.fn 53 [])) [(.t 53), (.t 54)], none, [], false⟩,
                            ⟨(some 49), .mv (.t 55), none, [], false⟩,
                            ⟨(some 56), .ext (.t 49) 0, none, [], false⟩,
                            ⟨(some 57), .ext (.t 49) 1, none, [], false⟩,
                            ⟨(some 14), .mv (.t 56), none, [], false⟩,
                            ⟨(some 15), .mv (.t 57), none, [], false⟩])
                          (.seq (.reg [
                             ⟨(some 59), .mv (.t 13), none, [], false⟩,
                             ⟨(some 60), .bin .add (.t 59) (.k (.int .i64 100)), none, [], false⟩,
                             ⟨(some 61), .bin .sub (.t 60) (.k (.int .i64 1)), none, [], false⟩,
                             ⟨(some 62), .bin .mul (.k (.int .i64 16)) (.t 61), none, [], false⟩,
                             ⟨(some 63), .mv (.t 12), none, [], false⟩,
                             ⟨(some 64), .call (.k (.fn 50 [])) [(.t 62), (.t 63)], none, [], false⟩,
                             ⟨(some 58), .mv (.t 64), none, [], false⟩,
                             ⟨(some 65), .ext (.t 58) 0, none, [], false⟩,
                             ⟨(some 66), .ext (.t 58) 1, none, [], false⟩,
                             ⟨(some 16), .mv (.t 65), none, [], false⟩,
                             ⟨(some 17), .mv (.t 66), none, [], false⟩])
                           (.reg [
                             ⟨(some 67), .mv (.t 6), none, [], false⟩,
                             ⟨(some 68), .mv (.t 14), none, [], false⟩,
                             ⟨(some 69), .mnx true (.t 67) [(.t 68)], none, [], false⟩,
                             ⟨(some 70), .mv (.t 7), none, [], false⟩,
                             ⟨(some 71), .mv (.t 16), none, [], false⟩,
                             ⟨(some 72), .mnx false (.t 70) [(.t 71)], none, [], false⟩,
                             ⟨(some 6), .mv (.t 69), none, [], false⟩,
                             ⟨(some 7), .mv (.t 72), none, [], false⟩])))))))
                     (.reg [
                       ⟨(some 73), .bin .add (.t 34) (.k (.int .i64 1)), none, [], false⟩,
                       ⟨(some 34), .mv (.t 73), none, [], false⟩])))))))))
             (.reg [
               ⟨(some 74), .bin .add (.t 25) (.k (.int .i64 1)), none, [], false⟩,
               ⟨(some 25), .mv (.t 74), none, [], false⟩])))))))
       (.seq (.seq (.reg [
           ⟨(some 75), .mv (.t 6), none, [], false⟩,
           ⟨(some 76), .mv (.t 7), none, [], false⟩,
           ⟨(some 77), .bin .gtr (.t 75) (.t 76), none, [], false⟩])
         (.cond (.t 77) (.seq (.reg [
             ⟨(some 2), .mv (.k (.int .i64 0)), none, [], false⟩,
             ⟨(some 3), .mv (.k (.int .i64 0)), none, [], false⟩,
             ⟨(some 4), .mv (.k (.int .i64 8)), none, [], false⟩])
           (.ret))
          (.skip)))
        (.seq (.reg [
           ⟨(some 78), .mv (.t 6), none, [], false⟩,
           ⟨(some 79), .mv (.t 7), none, [], false⟩,
           ⟨(some 2), .mv (.t 78), none, [], false⟩,
           ⟨(some 3), .mv (.t 79), none, [], false⟩,
           ⟨(some 4), .mv (.k (.int .i64 0)), none, [], false⟩])
         (.ret))))))
/-- skyway/skywaykeep2.ClimbNarrows -/
def c9 : CF where
  np := 1
  nt := 71
  res := [.t 2]
  code := .seq (.reg [
      ⟨(some 2), .mv (.k (.bool false)), none, [], false⟩])
    (.seq (.seq (.reg [
        ⟨(some 13), .call (.k (.fn 27 [])) [(.k (.sl true 0 0 0 0 0))], none, [], false⟩,
        ⟨(some 12), .mv (.t 13), none, [], false⟩,
        ⟨(some 14), .ext (.t 12) 0, none, [], false⟩,
        ⟨(some 15), .ext (.t 12) 1, none, [], false⟩,
        ⟨(some 16), .ext (.t 12) 2, none, [], false⟩,
        ⟨(some 3), .mv (.t 14), none, [], false⟩,
        ⟨(some 4), .mv (.t 15), none, [], false⟩,
        ⟨(some 5), .mv (.t 16), none, [], false⟩])
      (.seq (.reg [
         ⟨(some 17), .mv (.t 5), none, [], false⟩,
         ⟨(some 18), .bin .neq (.t 17) (.k (.int .i64 0)), none, [], false⟩,
         ⟨(some 19), .mv (.t 18), none, [], false⟩,
         ⟨(some 20), .mv (.t 3), (some (19, false)), [], false⟩,
         ⟨(some 21), .bin .neq (.t 20) (.k (.int .i64 (-3200))), (some (19, false)), [], false⟩,
         ⟨(some 22), .pick (.t 19) (.k (.bool true)) (.t 21), none, [], false⟩,
         ⟨(some 23), .mv (.t 22), none, [], false⟩,
         ⟨(some 24), .mv (.t 4), (some (23, false)), [], false⟩,
         ⟨(some 25), .bin .neq (.t 24) (.k (.int .i64 3200)), (some (23, false)), [], false⟩,
         ⟨(some 26), .pick (.t 23) (.k (.bool true)) (.t 25), none, [], false⟩])
       (.cond (.t 26) (.seq (.reg [
           ⟨(some 2), .mv (.k (.bool false)), none, [], false⟩])
         (.ret))
        (.skip))))
     (.seq (.seq (.reg [
         ⟨(some 27), .mv (.t 0), none, [], false⟩,
         ⟨(some 28), .lenv false (.t 27), none, [], false⟩,
         ⟨(some 29), .bin .eql (.t 28) (.k (.int .i64 0)), none, [], false⟩])
       (.cond (.t 29) (.seq (.reg [
           ⟨(some 2), .mv (.k (.bool true)), none, [], false⟩])
         (.ret))
        (.skip)))
      (.seq (.reg [
         ⟨(some 31), .mv (.t 0), none, [], false⟩,
         ⟨(some 32), .mv (.t 0), none, [], false⟩,
         ⟨(some 33), .lenv false (.t 32), none, [], false⟩,
         ⟨(some 34), .bin .sub (.t 33) (.k (.int .i64 1)), none, [], false⟩,
         ⟨(some 35), .slc 2 (.t 31) none (some (.t 34)), none, [], false⟩,
         ⟨(some 36), .call (.k (.fn 27 [])) [(.t 35)], none, [], false⟩,
         ⟨(some 30), .mv (.t 36), none, [], false⟩,
         ⟨(some 37), .ext (.t 30) 0, none, [], false⟩,
         ⟨(some 38), .ext (.t 30) 1, none, [], false⟩,
         ⟨(some 39), .ext (.t 30) 2, none, [], false⟩,
         ⟨(some 6), .mv (.t 37), none, [], false⟩,
         ⟨(some 7), .mv (.t 38), none, [], false⟩,
         ⟨(some 8), .mv (.t 39), none, [], false⟩])
       (.seq (.reg [
          ⟨(some 41), .mv (.t 0), none, [], false⟩,
          ⟨(some 42), .call (.k (.fn 27 [])) [(.t 41)], none, [], false⟩,
          ⟨(some 40), .mv (.t 42), none, [], false⟩,
          ⟨(some 43), .ext (.t 40) 0, none, [], false⟩,
          ⟨(some 44), .ext (.t 40) 1, none, [], false⟩,
          ⟨(some 45), .ext (.t 40) 2, none, [], false⟩,
          ⟨(some 9), .mv (.t 43), none, [], false⟩,
          ⟨(some 10), .mv (.t 44), none, [], false⟩,
          ⟨(some 11), .mv (.t 45), none, [], false⟩])
        (.seq (.seq (.reg [
            ⟨(some 46), .mv (.t 11), none, [], false⟩,
            ⟨(some 47), .bin .neq (.t 46) (.k (.int .i64 0)), none, [], false⟩])
          (.cond (.t 47) (.seq (.reg [
              ⟨(some 48), .mv (.t 9), none, [], false⟩,
              ⟨(some 49), .bin .eql (.t 48) (.k (.int .i64 0)), none, [], false⟩,
              ⟨(some 50), .mv (.t 49), none, [], false⟩,
              ⟨(some 51), .mv (.t 10), (some (50, true)), [], false⟩,
              ⟨(some 52), .bin .eql (.t 51) (.k (.int .i64 0)), (some (50, true)), [], false⟩,
              ⟨(some 53), .pick (.t 50) (.t 52) (.k (.bool false)), none, [], false⟩,
              ⟨(some 2), .mv (.t 53), none, [], false⟩])
            (.ret))
           (.skip)))
         (.seq (.reg [
            ⟨(some 54), .mv (.t 8), none, [], false⟩,
            ⟨(some 55), .bin .eql (.t 54) (.k (.int .i64 0)), none, [], false⟩,
            ⟨(some 56), .mv (.t 55), none, [], false⟩,
            ⟨(some 57), .mv (.t 6), (some (56, true)), [], false⟩,
            ⟨(some 58), .mv (.t 9), (some (56, true)), [], false⟩,
            ⟨(some 59), .bin .leq (.t 57) (.t 58), (some (56, true)), [], false⟩,
            ⟨(some 60), .pick (.t 56) (.t 59) (.k (.bool false)), none, [], false⟩,
            ⟨(some 61), .mv (.t 60), none, [], false⟩,
            ⟨(some 62), .mv (.t 10), (some (61, true)), [], false⟩,
            ⟨(some 63), .mv (.t 7), (some (61, true)), [], false⟩,
            ⟨(some 64), .bin .leq (.t 62) (.t 63), (some (61, true)), [], false⟩,
            ⟨(some 65), .pick (.t 61) (.t 64) (.k (.bool false)), none, [], false⟩,
            ⟨(some 66), .mv (.t 65), none, [], false⟩,
            ⟨(some 67), .mv (.t 9), (some (66, true)), [], false⟩,
            ⟨(some 68), .mv (.t 10), (some (66, true)), [], false⟩,
            ⟨(some 69), .bin .leq (.t 67) (.t 68), (some (66, true)), [], false⟩,
            ⟨(some 70), .pick (.t 66) (.t 69) (.k (.bool false)), none, [], false⟩,
            ⟨(some 2), .mv (.t 70), none, [], false⟩])
          (.ret)))))))
/-- skyway/gate.check -/
def c55 : CF where
  np := 1
  nt := 65
  res := [.t 2]
  code := .seq (.reg [
      ⟨(some 1), .box (.t 0), none, [], false⟩,
      ⟨(some 2), .mv (.k (.int .i64 0)), none, [], false⟩])
    (.seq (.seq (.reg [
        ⟨(some 3), .fad 2 (.t 1), none, [], false⟩,
        ⟨(some 4), .ld1 (.t 3), none, [], false⟩,
        ⟨(some 5), .bin .lss (.t 4) (.k (.int .i64 0)), none, [], false⟩,
        ⟨(some 6), .mv (.t 5), none, [], false⟩,
        ⟨(some 7), .fad 2 (.t 1), (some (6, false)), [], false⟩,
        ⟨(some 8), .ld1 (.t 7), (some (6, false)), [], false⟩,
        ⟨(some 9), .bin .gtr (.t 8) (.k (.int .i64 200000)), (some (6, false)), [], false⟩,
        ⟨(some 10), .pick (.t 6) (.k (.bool true)) (.t 9), none, [], false⟩,
        ⟨(some 11), .mv (.t 10), none, [], false⟩,
        ⟨(some 12), .fad 3 (.t 1), (some (11, false)), [], false⟩,
        ⟨(some 13), .fad 0 (.t 12), (some (11, false)), [], false⟩,
        ⟨(some 14), .ld1 (.t 13), (some (11, false)), [], false⟩,
        ⟨(some 15), .bin .lss (.t 14) (.k (.int .i64 (-1000000))), (some (11, false)), [], false⟩,
        ⟨(some 16), .pick (.t 11) (.k (.bool true)) (.t 15), none, [], false⟩,
        ⟨(some 17), .mv (.t 16), none, [], false⟩,
        ⟨(some 18), .fad 3 (.t 1), (some (17, false)), [], false⟩,
        ⟨(some 19), .fad 0 (.t 18), (some (17, false)), [], false⟩,
        ⟨(some 20), .ld1 (.t 19), (some (17, false)), [], false⟩,
        ⟨(some 21), .bin .gtr (.t 20) (.k (.int .i64 1000000)), (some (17, false)), [], false⟩,
        ⟨(some 22), .pick (.t 17) (.k (.bool true)) (.t 21), none, [], false⟩,
        ⟨(some 23), .mv (.t 22), none, [], false⟩,
        ⟨(some 24), .fad 3 (.t 1), (some (23, false)), [], false⟩,
        ⟨(some 25), .fad 1 (.t 24), (some (23, false)), [], false⟩,
        ⟨(some 26), .ld1 (.t 25), (some (23, false)), [], false⟩,
        ⟨(some 27), .bin .lss (.t 26) (.k (.int .i64 (-1000000))), (some (23, false)), [], false⟩,
        ⟨(some 28), .pick (.t 23) (.k (.bool true)) (.t 27), none, [], false⟩,
        ⟨(some 29), .mv (.t 28), none, [], false⟩,
        ⟨(some 30), .fad 3 (.t 1), (some (29, false)), [], false⟩,
        ⟨(some 31), .fad 1 (.t 30), (some (29, false)), [], false⟩,
        ⟨(some 32), .ld1 (.t 31), (some (29, false)), [], false⟩,
        ⟨(some 33), .bin .gtr (.t 32) (.k (.int .i64 1000000)), (some (29, false)), [], false⟩,
        ⟨(some 34), .pick (.t 29) (.k (.bool true)) (.t 33), none, [], false⟩,
        ⟨(some 35), .mv (.t 34), none, [], false⟩,
        ⟨(some 36), .fad 7 (.t 1), (some (35, false)), [], false⟩,
        ⟨(some 37), .ld1 (.t 36), (some (35, false)), [], false⟩,
        ⟨(some 38), .bin .lss (.t 37) (.k (.int .i64 0)), (some (35, false)), [], false⟩,
        ⟨(some 39), .pick (.t 35) (.k (.bool true)) (.t 38), none, [], false⟩,
        ⟨(some 40), .mv (.t 39), none, [], false⟩,
        ⟨(some 41), .fad 7 (.t 1), (some (40, false)), [], false⟩,
        ⟨(some 42), .ld1 (.t 41), (some (40, false)), [], false⟩,
        ⟨(some 43), .bin .gtr (.t 42) (.k (.int .i64 60000)), (some (40, false)), [], false⟩,
        ⟨(some 44), .pick (.t 40) (.k (.bool true)) (.t 43), none, [], false⟩,
        ⟨(some 45), .mv (.t 44), none, [], false⟩,
        ⟨(some 46), .fad 9 (.t 1), (some (45, false)), [], false⟩,
        ⟨(some 47), .ld1 (.t 46), (some (45, false)), [], false⟩,
        ⟨(some 48), .bin .lss (.t 47) (.k (.int .i64 0)), (some (45, false)), [], false⟩,
        ⟨(some 49), .pick (.t 45) (.k (.bool true)) (.t 48), none, [], false⟩,
        ⟨(some 50), .mv (.t 49), none, [], false⟩,
        ⟨(some 51), .fad 9 (.t 1), (some (50, false)), [], false⟩,
        ⟨(some 52), .ld1 (.t 51), (some (50, false)), [], false⟩,
        ⟨(some 53), .bin .gtr (.t 52) (.k (.int .i64 4000000)), (some (50, false)), [], false⟩,
        ⟨(some 54), .pick (.t 50) (.k (.bool true)) (.t 53), none, [], false⟩,
        ⟨(some 55), .mv (.t 54), none, [], false⟩,
        ⟨(some 56), .fad 10 (.t 1), (some (55, false)), [], false⟩,
        ⟨(some 57), .ld1 (.t 56), (some (55, false)), [], false⟩,
        ⟨(some 58), .bin .lss (.t 57) (.k (.int .i64 (-1))), (some (55, false)), [], false⟩,
        ⟨(some 59), .pick (.t 55) (.k (.bool true)) (.t 58), none, [], false⟩,
        ⟨(some 60), .mv (.t 59), none, [], false⟩,
        ⟨(some 61), .fad 10 (.t 1), (some (60, false)), [], false⟩,
        ⟨(some 62), .ld1 (.t 61), (some (60, false)), [], false⟩,
        ⟨(some 63), .bin .gtr (.t 62) (.k (.int .i64 4095)), (some (60, false)), [], false⟩,
        ⟨(some 64), .pick (.t 60) (.k (.bool true)) (.t 63), none, [], false⟩])
      (.cond (.t 64) (.seq (.reg [
          ⟨(some 2), .mv (.k (.int .i64 4)), none, [], false⟩])
        (.ret))
       (.skip)))
     (.seq (.reg [
        ⟨(some 2), .mv (.k (.int .i64 0)), none, [], false⟩])
      (.ret)))
/-- skyway/gate.square -/
def c54 : CF where
  np := 2
  nt := 28
  res := [.t 4]
  code := .seq (.reg [
      ⟨(some 2), .box (.t 0), none, [], false⟩,
      ⟨(some 3), .box (.t 1), none, [], false⟩,
      ⟨(some 4), .mv (.k (.int .i64 0)), none, [], false⟩])
    (.seq (.reg [
       ⟨(some 5), .fad 0 (.t 2), none, [], false⟩,
       ⟨(some 6), .ld1 (.t 5), none, [], false⟩,
       ⟨(some 7), .fad 0 (.t 3), none, [], false⟩,
       ⟨(some 8), .ld1 (.t 7), none, [], false⟩,
       ⟨(some 9), .bin .sub (.t 6) (.t 8), none, [], false⟩,
       ⟨(some 10), .fad 0 (.t 2), none, [], false⟩,
       ⟨(some 11), .ld1 (.t 10), none, [], false⟩,
       ⟨(some 12), .fad 0 (.t 3), none, [], false⟩,
       ⟨(some 13), .ld1 (.t 12), none, [], false⟩,
       ⟨(some 14), .bin .sub (.t 11) (.t 13), none, [], false⟩,
       ⟨(some 15), .bin .mul (.t 9) (.t 14), none, [], false⟩,
       ⟨(some 16), .fad 1 (.t 2), none, [], false⟩,
       ⟨(some 17), .ld1 (.t 16), none, [], false⟩,
       ⟨(some 18), .fad 1 (.t 3), none, [], false⟩,
       ⟨(some 19), .ld1 (.t 18), none, [], false⟩,
       ⟨(some 20), .bin .sub (.t 17) (.t 19), none, [], false⟩,
       ⟨(some 21), .fad 1 (.t 2), none, [], false⟩,
       ⟨(some 22), .ld1 (.t 21), none, [], false⟩,
       ⟨(some 23), .fad 1 (.t 3), none, [], false⟩,
       ⟨(some 24), .ld1 (.t 23), none, [], false⟩,
       ⟨(some 25), .bin .sub (.t 22) (.t 24), none, [], false⟩,
       ⟨(some 26), .bin .mul (.t 20) (.t 25), none, [], false⟩,
       ⟨(some 27), .bin .add (.t 15) (.t 26), none, [], false⟩,
       ⟨(some 4), .mv (.t 27), none, [], false⟩])
     (.ret))
/-- skyway/gate.near -/
def c57 : CF where
  np := 2
  nt := 16
  res := [.t 4]
  code := .seq (.reg [
      ⟨(some 4), .mv (.k (.bool false)), none, [], false⟩])
    (.seq (.reg [
       ⟨(some 5), .mv (.t 0), none, [], false⟩,
       ⟨(some 6), .bin .lss (.t 5) (.k (.int .i64 0)), none, [], false⟩,
       ⟨(some 7), .mv (.t 6), none, [], false⟩,
       ⟨(some 8), .mv (.t 1), (some (7, false)), [], false⟩,
       ⟨(some 9), .bin .lss (.t 8) (.k (.int .i64 0)), (some (7, false)), [], false⟩,
       ⟨(some 10), .pick (.t 7) (.k (.bool true)) (.t 9), none, [], false⟩,
       ⟨(some 11), .mv (.t 10), none, [], false⟩,
       ⟨(some 12), .mv (.t 0), (some (11, false)), [], false⟩,
       ⟨(some 13), .mv (.t 1), (some (11, false)), [], false⟩,
       ⟨(some 14), .bin .eql (.t 12) (.t 13), (some (11, false)), [], false⟩,
       ⟨(some 15), .pick (.t 11) (.k (.bool true)) (.t 14), none, [], false⟩,
       ⟨(some 4), .mv (.t 15), none, [], false⟩])
     (.ret))
/-- skyway/gate.Fits -/
def c29 : CF where
  np := 3
  nt := 73
  res := [.t 6, .t 7]
  code := .seq (.reg [
      ⟨(some 3), .box (.t 0), none, [], false⟩,
      ⟨(some 4), .box (.t 1), none, [], false⟩,
      ⟨(some 6), .mv (.k (.bool false)), none, [], false⟩,
      ⟨(some 7), .mv (.k (.int .i64 0)), none, [], false⟩])
    (.seq (.seq (.reg [
        ⟨(some 12), .ldn 13 (.t 3), none, [], false⟩,
        ⟨(some 13), .call (.k (.fn 55 [])) [(.t 12)], none, [], false⟩,
        ⟨(some 8), .mv (.t 13), none, [], false⟩])
      (.seq (.reg [
         ⟨(some 14), .mv (.t 8), none, [], false⟩,
         ⟨(some 15), .bin .neq (.t 14) (.k (.int .i64 0)), none, [], false⟩])
       (.cond (.t 15) (.seq (.reg [
           ⟨(some 16), .mv (.t 8), none, [], false⟩,
           ⟨(some 6), .mv (.k (.bool false)), none, [], false⟩,
           ⟨(some 7), .mv (.t 16), none, [], false⟩])
         (.ret))
        (.skip))))
     (.seq (.seq (.reg [
         ⟨(some 17), .ldn 6 (.t 4), none, [], false⟩,
         ⟨(some 18), .call (.k (.fn 56 [])) [(.t 17)], none, [], false⟩,
         ⟨(some 9), .mv (.t 18), none, [], false⟩])
       (.seq (.reg [
          ⟨(some 19), .mv (.t 9), none, [], false⟩,
          ⟨(some 20), .bin .neq (.t 19) (.k (.int .i64 0)), none, [], false⟩])
        (.cond (.t 20) (.seq (.reg [
            ⟨(some 21), .mv (.t 9), none, [], false⟩,
            ⟨(some 6), .mv (.k (.bool false)), none, [], false⟩,
            ⟨(some 7), .mv (.t 21), none, [], false⟩])
          (.ret))
         (.skip))))
      (.seq (.seq (.reg [
          ⟨(some 22), .mv (.t 2), none, [], false⟩,
          ⟨(some 23), .bin .lss (.t 22) (.k (.int .i64 0)), none, [], false⟩,
          ⟨(some 24), .mv (.t 23), none, [], false⟩,
          ⟨(some 25), .mv (.t 2), (some (24, false)), [], false⟩,
          ⟨(some 26), .bin .gtr (.t 25) (.k (.int .i64 60000)), (some (24, false)), [], false⟩,
          ⟨(some 27), .pick (.t 24) (.k (.bool true)) (.t 26), none, [], false⟩])
        (.cond (.t 27) (.seq (.reg [
            ⟨(some 6), .mv (.k (.bool false)), none, [], false⟩,
            ⟨(some 7), .mv (.k (.int .i64 4)), none, [], false⟩])
          (.ret))
         (.skip)))
       (.seq (.seq (.reg [
           ⟨(some 28), .fad 2 (.t 3), none, [], false⟩,
           ⟨(some 29), .ld1 (.t 28), none, [], false⟩,
           ⟨(some 30), .fad 0 (.t 4), none, [], false⟩,
           ⟨(some 31), .ld1 (.t 30), none, [], false⟩,
           ⟨(some 32), .bin .neq (.t 29) (.t 31), none, [], false⟩])
         (.cond (.t 32) (.seq (.reg [
             ⟨(some 6), .mv (.k (.bool false)), none, [], false⟩,
             ⟨(some 7), .mv (.k (.int .i64 12)), none, [], false⟩])
           (.ret))
          (.skip)))
        (.seq (.reg [
           ⟨(some 33), .fad 3 (.t 3), none, [], false⟩,
           ⟨(some 34), .ldn 2 (.t 33), none, [], false⟩,
           ⟨(some 35), .fad 1 (.t 4), none, [], false⟩,
           ⟨(some 36), .ldn 2 (.t 35), none, [], false⟩,
           ⟨(some 37), .call (.k (.fn 54 [])) [(.t 34), (.t 36)], none, [], false⟩,
           ⟨(some 10), .mv (.t 37), none, [], false⟩])
         (.seq (.reg [
            ⟨(some 38), .fad 9 (.t 3), none, [], false⟩,
            ⟨(some 39), .ld1 (.t 38), none, [], false⟩,
            ⟨(some 40), .fad 5 (.t 4), none, [], false⟩,
            ⟨(some 41), .ld1 (.t 40), none, [], false⟩,
            ⟨(some 42), .bin .add (.t 39) (.t 41), none, [], false⟩,
            ⟨(some 11), .mv (.t 42), none, [], false⟩])
          (.seq (.reg [
             ⟨(some 43), .mv (.t 10), none, [], false⟩,
             ⟨(some 44), .mv (.t 11), none, [], false⟩,
             ⟨(some 45), .mv (.t 11), none, [], false⟩,
             ⟨(some 46), .bin .mul (.t 44) (.t 45), none, [], false⟩,
             ⟨(some 47), .bin .leq (.t 43) (.t 46), none, [], false⟩,
             ⟨(some 48), .mv (.t 47), none, [], false⟩,
             ⟨(some 49), .fad 10 (.t 3), (some (48, true)), [], false⟩,
             ⟨(some 50), .ld1 (.t 49), (some (48, true)), [], false⟩,
             ⟨(some 51), .fad 4 (.t 4), (some (48, true)), [], false⟩,
             ⟨(some 52), .ld1 (.t 51), (some (48, true)), [], false⟩,
             ⟨(some 53), .call (.k (.fn 57 [])) [(.t 50), (.t 52)], (some (48, true)), [], false⟩,
             ⟨(some 54), .pick (.t 48) (.t 53) (.k (.bool false)), none, [], false⟩,
             ⟨(some 55), .mv (.t 54), none, [], false⟩,
             ⟨(some 56), .fad 7 (.t 3), (some (55, true)), [], false⟩,
             ⟨(some 57), .ld1 (.t 56), (some (55, true)), [], false⟩,
             ⟨(some 58), .fad 3 (.t 4), (some (55, true)), [], false⟩,
             ⟨(some 59), .ld1 (.t 58), (some (55, true)), [], false⟩,
             ⟨(some 60), .bin .sub (.t 57) (.t 59), (some (55, true)), [], false⟩,
             ⟨(some 61), .mv (.t 2), (some (55, true)), [], false⟩,
             ⟨(some 62), .bin .leq (.t 60) (.t 61), (some (55, true)), [], false⟩,
             ⟨(some 63), .pick (.t 55) (.t 62) (.k (.bool false)), none, [], false⟩,
             ⟨(some 64), .mv (.t 63), none, [], false⟩,
             ⟨(some 65), .fad 3 (.t 4), (some (64, true)), [], false⟩,
             ⟨(some 66), .ld1 (.t 65), (some (64, true)), [], false⟩,
             ⟨(some 67), .fad 7 (.t 3), (some (64, true)), [], false⟩,
             ⟨(some 68), .ld1 (.t 67), (some (64, true)), [], false⟩,
             ⟨(some 69), .bin .sub (.t 66) (.t 68), (some (64, true)), [], false⟩,
             ⟨(some 70), .mv (.t 2), (some (64, true)), [], false⟩,
             ⟨(some 71), .bin .leq (.t 69) (.t 70), (some (64, true)), [], false⟩,
             ⟨(some 72), .pick (.t 64) (.t 71) (.k (.bool false)), none, [], false⟩,
             ⟨(some 6), .mv (.t 72), none, [], false⟩,
             ⟨(some 7), .mv (.k (.int .i64 0)), none, [], false⟩])
           (.ret))))))))
/-- skyway/gate.Costs -/
def c28 : CF where
  np := 3
  nt := 66
  res := [.t 6, .t 7]
  code := .seq (.reg [
      ⟨(some 6), .mv (.k (.sl true 0 0 0 0 0)), none, [], false⟩,
      ⟨(some 7), .mv (.k (.int .i64 0)), none, [], false⟩])
    (.seq (.seq (.reg [
        ⟨(some 17), .mv (.t 0), none, [], false⟩,
        ⟨(some 18), .lenv false (.t 17), none, [], false⟩,
        ⟨(some 19), .bin .gtr (.t 18) (.k (.int .i64 32)), none, [], false⟩,
        ⟨(some 20), .mv (.t 19), none, [], false⟩,
        ⟨(some 21), .mv (.t 1), (some (20, false)), [], false⟩,
        ⟨(some 22), .lenv false (.t 21), (some (20, false)), [], false⟩,
        ⟨(some 23), .bin .gtr (.t 22) (.k (.int .i64 32)), (some (20, false)), [], false⟩,
        ⟨(some 24), .pick (.t 20) (.k (.bool true)) (.t 23), none, [], false⟩])
      (.cond (.t 24) (.seq (.reg [
          ⟨(some 6), .mv (.k (.sl true 0 0 0 0 0)), none, [], false⟩,
          ⟨(some 7), .mv (.k (.int .i64 2)), none, [], false⟩])
        (.ret))
       (.skip)))
     (.seq (.reg [
        ⟨(some 8), .mv (.k (.sl true 0 0 0 0 0)), none, [], false⟩])
      (.seq (.seq (.reg [
          ⟨(some 25), .mv (.t 0), none, [], false⟩,
          ⟨(some 26), .lenv false (.t 25), none, [], false⟩,
          ⟨(some 27), .mv (.k (.int .i64 0)), none, [], false⟩])
        (.blk 0 (.loop (.seq (.reg [
             ⟨(some 28), .bin .lss (.t 27) (.t 26), none, [], false⟩])
           (.seq (.cond (.t 28) (.skip)
             (.exit 0))
            (.seq (.blk 1 (.seq (.reg [
                 ⟨(some 29), .iad 13 (.t 25) (.t 27), none, [], false⟩,
                 ⟨(some 30), .ldn 13 (.t 29), none, [], false⟩,
                 ⟨(some 10), .new [.int .i64 0, .int .i64 0, .int .i64 0, .int .i64 0, .int .i64 0, .int .i64 0, .int .i64 0, .int .i64 0, .int .i64 0, .int .i64 0, .int .i64 0, .int .i64 0, .int .i64 0], none, [], false⟩,
                 ⟨none, .st 13 (.t 10) (.t 30), none, [], false⟩])
               (.seq (.reg [
                  ⟨(some 11), .mv (.k (.sl true 0 0 0 0 0)), none, [], false⟩])
                (.seq (.seq (.reg [
                    ⟨(some 31), .mv (.t 1), none, [], false⟩,
                    ⟨(some 32), .lenv false (.t 31), none, [], false⟩,
                    ⟨(some 33), .mv (.k (.int .i64 0)), none, [], false⟩])
                  (.blk 2 (.loop (.seq (.reg [
                       ⟨(some 34), .bin .lss (.t 33) (.t 32), none, [], false⟩])
                     (.seq (.cond (.t 34) (.skip)
                       (.exit 2))
                      (.seq (.blk 3 (.seq (.reg [
                           ⟨(some 35), .iad 6 (.t 31) (.t 33), none, [], false⟩,
                           ⟨(some 36), .ldn 6 (.t 35), none, [], false⟩,
                           ⟨(some 13), .new [.int .i64 0, .int .i64 0, .int .i64 0, .int .i64 0, .int .i64 0, .int .i64 0], none, [], false⟩,
                           ⟨none, .st 6 (.t 13) (.t 36), none, [], false⟩])
                         (.seq (.reg [
                            ⟨(some 38), .ldn 13 (.t 10), none, [], false⟩,
                            ⟨(some 39), .ldn 6 (.t 13), none, [], false⟩,
                            ⟨(some 40), .mv (.t 2), none, [], false⟩,
                            ⟨(some 41), .call (.k (.fn 29 [])) [(.t 38), (.t 39), (.t 40)], none, [], false⟩,
                            ⟨(some 37), .mv (.t 41), none, [], false⟩,
                            ⟨(some 42), .ext (.t 37) 0, none, [], false⟩,
                            ⟨(some 43), .ext (.t 37) 1, none, [], false⟩,
                            ⟨(some 14), .mv (.t 42), none, [], false⟩,
                            ⟨(some 15), .mv (.t 43), none, [], false⟩])
                          (.seq (.seq (.reg [
                              ⟨(some 44), .mv (.t 15), none, [], false⟩,
                              ⟨(some 45), .bin .neq (.t 44) (.k (.int .i64 0)), none, [], false⟩])
                            (.cond (.t 45) (.seq (.reg [
                                ⟨(some 46), .mv (.t 15), none, [], false⟩,
                                ⟨(some 6), .mv (.k (.sl true 0 0 0 0 0)), none, [], false⟩,
                                ⟨(some 7), .mv (.t 46), none, [], false⟩])
                              (.ret))
                             (.skip)))
                           (.seq (.reg [
                              ⟨(some 16), .mv (.k (.int .i64 (-1))), none, [], false⟩])
                            (.seq (.seq (.reg [
                                ⟨(some 47), .mv (.t 14), none, [], false⟩])
                              (.cond (.t 47) (.reg [
                                 ⟨(some 48), .fad 3 (.t 10), none, [], false⟩,
                                 ⟨(some 49), .ldn 2 (.t 48), none, [], false⟩,
                                 ⟨(some 50), .fad 1 (.t 13), none, [], false⟩,
                                 ⟨(some 51), .ldn 2 (.t 50), none, [], false⟩,
                                 ⟨(some 52), .call (.k (.fn 54 [])) [(.t 49), (.t 51)], none, [], false⟩,
                                 ⟨(some 53), .bin .quo (.t 52) (.k (.int .i64 10000)), none, [], false⟩,
                                 ⟨(some 54), .mnx false (.t 53) [(.k (.int .i64 1073741824))], none, [], false⟩,
                                 ⟨(some 16), .mv (.t 54), none, [], false⟩])
                               (.skip)))
                             (.reg [
                               ⟨(some 55), .mv (.t 11), none, [], false⟩,
                               ⟨(some 56), .mv (.t 16), none, [], false⟩,
                               ⟨(some 57), .mks [.int .i64 0] 1 1 [(0, 1, (.t 56))], none, [], false⟩,
                               ⟨(some 58), .app 1 8 (.t 55) (.t 57), none, [], false⟩,
                               ⟨(some 11), .mv (.t 58), none, [], false⟩])))))))
                       (.reg [
                         ⟨(some 59), .bin .add (.t 33) (.k (.int .i64 1)), none, [], false⟩,
                         ⟨(some 33), .mv (.t 59), none, [], false⟩])))))))
                 (.reg [
                   ⟨(some 60), .mv (.t 8), none, [], false⟩,
                   ⟨(some 61), .mv (.t 11), none, [], false⟩,
                   ⟨(some 62), .mks [.sl true 0 0 0 0 0] 1 1 [(0, 1, (.t 61))], none, [], false⟩,
                   ⟨(some 63), .app 1 24 (.t 60) (.t 62), none, [], false⟩,
                   ⟨(some 8), .mv (.t 63), none, [], false⟩])))))
             (.reg [
               ⟨(some 64), .bin .add (.t 27) (.k (.int .i64 1)), none, [], false⟩,
               ⟨(some 27), .mv (.t 64), none, [], false⟩])))))))
       (.seq (.reg [
          ⟨(some 65), .mv (.t 8), none, [], false⟩,
          ⟨(some 6), .mv (.t 65), none, [], false⟩,
          ⟨(some 7), .mv (.k (.int .i64 0)), none, [], false⟩])
        (.ret)))))
/-- skyway/skywaykeep2.square -/
def c30 : CF where
  np := 2
  nt := 28
  res := [.t 4]
  code := .seq (.reg [
      ⟨(some 2), .box (.t 0), none, [], false⟩,
      ⟨(some 3), .box (.t 1), none, [], false⟩,
      ⟨(some 4), .mv (.k (.int .i64 0)), none, [], false⟩])
    (.seq (.reg [
       ⟨(some 5), .fad 0 (.t 2), none, [], false⟩,
       ⟨(some 6), .ld1 (.t 5), none, [], false⟩,
       ⟨(some 7), .fad 0 (.t 3), none, [], false⟩,
       ⟨(some 8), .ld1 (.t 7), none, [], false⟩,
       ⟨(some 9), .bin .sub (.t 6) (.t 8), none, [], false⟩,
       ⟨(some 10), .fad 0 (.t 2), none, [], false⟩,
       ⟨(some 11), .ld1 (.t 10), none, [], false⟩,
       ⟨(some 12), .fad 0 (.t 3), none, [], false⟩,
       ⟨(some 13), .ld1 (.t 12), none, [], false⟩,
       ⟨(some 14), .bin .sub (.t 11) (.t 13), none, [], false⟩,
       ⟨(some 15), .bin .mul (.t 9) (.t 14), none, [], false⟩,
       ⟨(some 16), .fad 1 (.t 2), none, [], false⟩,
       ⟨(some 17), .ld1 (.t 16), none, [], false⟩,
       ⟨(some 18), .fad 1 (.t 3), none, [], false⟩,
       ⟨(some 19), .ld1 (.t 18), none, [], false⟩,
       ⟨(some 20), .bin .sub (.t 17) (.t 19), none, [], false⟩,
       ⟨(some 21), .fad 1 (.t 2), none, [], false⟩,
       ⟨(some 22), .ld1 (.t 21), none, [], false⟩,
       ⟨(some 23), .fad 1 (.t 3), none, [], false⟩,
       ⟨(some 24), .ld1 (.t 23), none, [], false⟩,
       ⟨(some 25), .bin .sub (.t 22) (.t 24), none, [], false⟩,
       ⟨(some 26), .bin .mul (.t 20) (.t 25), none, [], false⟩,
       ⟨(some 27), .bin .add (.t 15) (.t 26), none, [], false⟩,
       ⟨(some 4), .mv (.t 27), none, [], false⟩])
     (.ret))
/-- skyway/skywaykeep2.GateCosts -/
def c10 : CF where
  np := 3
  nt := 185
  res := [.t 6]
  code := .seq (.reg [
      ⟨(some 6), .mv (.k (.bool false)), none, [], false⟩])
    (.seq (.reg [
       ⟨(some 20), .mk [.int .i64 0, .int .i64 0] [(0, 1, (.k (.int .i64 300)))], none, [], false⟩,
       ⟨(some 21), .mk [.int .i64 0, .int .i64 0, .int .i64 0, .int .i64 0, .int .i64 0, .int .i64 0] [(1, 2, (.t 20)), (5, 1, (.k (.int .i64 300)))], none, [], false⟩,
       ⟨(some 22), .mks [.int .i64 0, .int .i64 0, .int .i64 0, .int .i64 0, .int .i64 0, .int .i64 0] 6 1 [(0, 6, (.t 21))], none, [], false⟩,
       ⟨(some 7), .mv (.t 22), none, [], false⟩])
     (.seq (.seq (.reg [
         ⟨(some 24), .mk [.int .i64 0, .int .i64 0, .int .i64 0, .int .i64 0, .int .i64 0, .int .i64 0, .int .i64 0, .int .i64 0, .int .i64 0, .int .i64 0, .int .i64 0, .int .i64 0, .int .i64 0] [], none, [], false⟩,
         ⟨(some 25), .mks [.int .i64 0, .int .i64 0, .int .i64 0, .int .i64 0, .int .i64 0, .int .i64 0, .int .i64 0, .int .i64 0, .int .i64 0, .int .i64 0, .int .i64 0, .int .i64 0, .int .i64 0] 13 1 [(0, 13, (.t 24))], none, [], false⟩,
         ⟨(some 26), .mv (.t 7), none, [], false⟩,
         ⟨(some 27), .call (.k (.fn 28 [])) [(.t 25), (.t 26), (.k (.int .i64 0))], none, [], false⟩,
         ⟨(some 23), .mv (.t 27), none, [], false⟩,
         ⟨(some 28), .ext (.t 23) 0, none, [], false⟩,
         ⟨(some 29), .ext (.t 23) 1, none, [], false⟩,
         ⟨(some 8), .mv (.t 28), none, [], false⟩,
         ⟨(some 9), .mv (.t 29), none, [], false⟩])
       (.seq (.reg [
          ⟨(some 30), .mv (.t 9), none, [], false⟩,
          ⟨(some 31), .bin .neq (.t 30) (.k (.int .i64 0)), none, [], false⟩,
          ⟨(some 32), .mv (.t 31), none, [], false⟩,
          ⟨(some 33), .mv (.t 8), (some (32, false)), [], false⟩,
          ⟨(some 34), .lenv false (.t 33), (some (32, false)), [], false⟩,
          ⟨(some 35), .bin .neq (.t 34) (.k (.int .i64 1)), (some (32, false)), [], false⟩,
          ⟨(some 36), .pick (.t 32) (.k (.bool true)) (.t 35), none, [], false⟩,
          ⟨(some 37), .mv (.t 36), none, [], false⟩,
          ⟨(some 38), .mv (.t 8), (some (37, false)), [], false⟩,
          ⟨(some 39), .iad 1 (.t 38) (.k (.int .i64 0)), (some (37, false)), [], false⟩,
          ⟨(some 40), .ld1 (.t 39), (some (37, false)), [], false⟩,
          ⟨(some 41), .lenv false (.t 40), (some (37, false)), [], false⟩,
          ⟨(some 42), .bin .neq (.t 41) (.k (.int .i64 1)), (some (37, false)), [], false⟩,
          ⟨(some 43), .pick (.t 37) (.k (.bool true)) (.t 42), none, [], false⟩,
          ⟨(some 44), .mv (.t 43), none, [], false⟩,
          ⟨(some 45), .mv (.t 8), (some (44, false)), [], false⟩,
          ⟨(some 46), .iad 1 (.t 45) (.k (.int .i64 0)), (some (44, false)), [], false⟩,
          ⟨(some 47), .ld1 (.t 46), (some (44, false)), [], false⟩,
          ⟨(some 48), .iad 1 (.t 47) (.k (.int .i64 0)), (some (44, false)), [], false⟩,
          ⟨(some 49), .ld1 (.t 48), (some (44, false)), [], false⟩,
          ⟨(some 50), .bin .neq (.t 49) (.k (.int .i64 9)), (some (44, false)), [], false⟩,
          ⟨(some 51), .pick (.t 44) (.k (.bool true)) (.t 50), none, [], false⟩])
        (.cond (.t 51) (.seq (.reg [
            ⟨(some 6), .mv (.k (.bool false)), none, [], false⟩])
          (.ret))
         (.skip))))
      (.seq (.seq (.reg [
          ⟨(some 52), .mv (.t 0), none, [], false⟩,
          ⟨(some 53), .lenv false (.t 52), none, [], false⟩,
          ⟨(some 54), .bin .gtr (.t 53) (.k (.int .i64 6)), none, [], false⟩])
        (.cond (.t 54) (.reg [
           ⟨(some 55), .mv (.t 0), none, [], false⟩,
           ⟨(some 56), .slc 13 (.t 55) none (some (.k (.int .i64 6))), none, [], false⟩,
           ⟨(some 0), .mv (.t 56), none, [], false⟩])
         (.skip)))
       (.seq (.seq (.reg [
           ⟨(some 57), .mv (.t 1), none, [], false⟩,
           ⟨(some 58), .lenv false (.t 57), none, [], false⟩,
           ⟨(some 59), .bin .gtr (.t 58) (.k (.int .i64 6)), none, [], false⟩])
         (.cond (.t 59) (.reg [
            ⟨(some 60), .mv (.t 1), none, [], false⟩,
            ⟨(some 61), .slc 6 (.t 60) none (some (.k (.int .i64 6))), none, [], false⟩,
            ⟨(some 1), .mv (.t 61), none, [], false⟩])
          (.skip)))
        (.seq (.reg [
           ⟨(some 63), .mv (.t 0), none, [], false⟩,
           ⟨(some 64), .mv (.t 1), none, [], false⟩,
           ⟨(some 65), .mv (.t 2), none, [], false⟩,
           ⟨(some 66), .call (.k (.fn 28 [])) [(.t 63), (.t 64), (.t 65)], none, [], false⟩,
           ⟨(some 62), .mv (.t 66), none, [], false⟩,
           ⟨(some 67), .ext (.t 62) 0, none, [], false⟩,
           ⟨(some 68), .ext (.t 62) 1, none, [], false⟩,
           ⟨(some 10), .mv (.t 67), none, [], false⟩,
           ⟨(some 11), .mv (.t 68), none, [], false⟩])
         (.seq (.seq (.reg [
             ⟨(some 69), .mv (.t 11), none, [], false⟩,
             ⟨(some 70), .bin .neq (.t 69) (.k (.int .i64 0)), none, [], false⟩])
           (.cond (.t 70) (.seq (.reg [
               ⟨(some 71), .mv (.t 10), none, [], false⟩,
               ⟨(some 72), .lenv false (.t 71), none, [], false⟩,
               ⟨(some 73), .bin .eql (.t 72) (.k (.int .i64 0)), none, [], false⟩,
               ⟨(some 6), .mv (.t 73), none, [], false⟩])
             (.ret))
            (.skip)))
          (.seq (.seq (.reg [
              ⟨(some 74), .mv (.t 10), none, [], false⟩,
              ⟨(some 75), .lenv false (.t 74), none, [], false⟩,
              ⟨(some 76), .mv (.t 0), none, [], false⟩,
              ⟨(some 77), .lenv false (.t 76), none, [], false⟩,
              ⟨(some 78), .bin .neq (.t 75) (.t 77), none, [], false⟩])
            (.cond (.t 78) (.seq (.reg [
                ⟨(some 6), .mv (.k (.bool false)), none, [], false⟩])
              (.ret))
             (.skip)))
           (.seq (.seq (.reg [
               ⟨(some 79), .mv (.t 0), none, [], false⟩,
               ⟨(some 80), .lenv false (.t 79), none, [], false⟩,
               ⟨(some 81), .mv (.k (.int .i64 0)), none, [], false⟩])
             (.blk 0 (.loop (.seq (.reg [
                  ⟨(some 82), .bin .lss (.t 81) (.t 80), none, [], false⟩])
                (.seq (.cond (.t 82) (.skip)
                  (.exit 0))
                 (.seq (.blk 1 (.seq (.reg [
                      ⟨(some 83), .mv (.t 81), none, [], false⟩,
                      ⟨(some 84), .iad 13 (.t 79) (.t 81), none, [], false⟩,
                      ⟨(some 85), .ldn 13 (.t 84), none, [], false⟩,
                      ⟨(some 13), .new [.int .i64 0, .int .i64 0, .int .i64 0, .int .i64 0, .int .i64 0, .int .i64 0, .int .i64 0, .int .i64 0, .int .i64 0, .int .i64 0, .int .i64 0, .int .i64 0, .int .i64 0], none, [], false⟩,
                      ⟨(some 12), .mv (.t 83), none, [], false⟩,
                      ⟨none, .st 13 (.t 13) (.t 85), none, [], false⟩])
                    (.seq (.seq (.reg [
                        ⟨(some 86), .mv (.t 10), none, [], false⟩,
                        ⟨(some 87), .mv (.t 12), none, [], false⟩,
                        ⟨(some 88), .iad 1 (.t 86) (.t 87), none, [], false⟩,
                        ⟨(some 89), .ld1 (.t 88), none, [], false⟩,
                        ⟨(some 90), .lenv false (.t 89), none, [], false⟩,
                        ⟨(some 91), .mv (.t 1), none, [], false⟩,
                        ⟨(some 92), .lenv false (.t 91), none, [], false⟩,
                        ⟨(some 93), .bin .neq (.t 90) (.t 92), none, [], false⟩])
                      (.cond (.t 93) (.seq (.reg [
                          ⟨(some 6), .mv (.k (.bool false)), none, [], false⟩])
                        (.ret))
                       (.skip)))
                     (.seq (.reg [
                        ⟨(some 94), .mv (.t 1), none, [], false⟩,
                        ⟨(some 95), .lenv false (.t 94), none, [], false⟩,
                        ⟨(some 96), .mv (.k (.int .i64 0)), none, [], false⟩])
                      (.blk 2 (.loop (.seq (.reg [
                           ⟨(some 97), .bin .lss (.t 96) (.t 95), none, [], false⟩])
                         (.seq (.cond (.t 97) (.skip)
                           (.exit 2))
                          (.seq (.blk 3 (.seq (.reg [
                               ⟨(some 98), .mv (.t 96), none, [], false⟩,
                               ⟨(some 99), .iad 6 (.t 94) (.t 96), none, [], false⟩,
                               ⟨(some 100), .ldn 6 (.t 99), none, [], false⟩,
                               ⟨(some 15), .new [.int .i64 0, .int .i64 0, .int .i64 0, .int .i64 0, .int .i64 0, .int .i64 0], none, [], false⟩,
                               ⟨(some 14), .mv (.t 98), none, [], false⟩,
                               ⟨none, .st 6 (.t 15) (.t 100), none, [], false⟩])
                             (.seq (.reg [
                                ⟨(some 102), .ldn 13 (.t 13), none, [], false⟩,
                                ⟨(some 103), .ldn 6 (.t 15), none, [], false⟩,
                                ⟨(some 104), .mv (.t 2), none, [], false⟩,
                                ⟨(some 105), .call (.k (.fn 29 [])) [(.t 102), (.t 103), (.t 104)], none, [], false⟩,
                                ⟨(some 101), .mv (.t 105), none, [], false⟩,
                                ⟨(some 106), .ext (.t 101) 0, none, [], false⟩,
                                ⟨(some 107), .ext (.t 101) 1, none, [], false⟩,
                                ⟨(some 16), .mv (.t 106), none, [], false⟩,
                                ⟨(some 17), .mv (.t 107), none, [], false⟩])
                              (.seq (.seq (.reg [
                                  ⟨(some 108), .mv (.t 17), none, [], false⟩,
                                  ⟨(some 109), .bin .neq (.t 108) (.k (.int .i64 0)), none, [], false⟩,
                                  ⟨(some 110), .mv (.t 109), none, [], false⟩,
                                  ⟨(some 111), .mv (.t 16), (some (110, false)), [], false⟩,
                                  ⟨(some 112), .mv (.t 10), (some (110, false)), [], false⟩,
                                  ⟨(some 113), .mv (.t 12), (some (110, false)), [], false⟩,
                                  ⟨(some 114), .iad 1 (.t 112) (.t 113), (some (110, false)), [], false⟩,
                                  ⟨(some 115), .ld1 (.t 114), (some (110, false)), [], false⟩,
                                  ⟨(some 116), .mv (.t 14), (some (110, false)), [], false⟩,
                                  ⟨(some 117), .iad 1 (.t 115) (.t 116), (some (110, false)), [], false⟩,
                                  ⟨(some 118), .ld1 (.t 117), (some (110, false)), [], false⟩,
                                  ⟨(some 119), .bin .geq (.t 118) (.k (.int .i64 0)), (some (110, false)), [], false⟩,
                                  ⟨(some 120), .eqs true none (.t 111) (.t 119), (some (110, false)), [], false⟩,
                                  ⟨(some 121), .pick (.t 110) (.k (.bool true)) (.t 120), none, [], false⟩,
                                  ⟨(some 122), .mv (.t 121), none, [], false⟩,
                                  ⟨(some 123), .mv (.t 10), (some (122, false)), [], false⟩,
                                  ⟨(some 124), .mv (.t 12), (some (122, false)), [], false⟩,
                                  ⟨(some 125), .iad 1 (.t 123) (.t 124), (some (122, false)), [], false⟩,
                                  ⟨(some 126), .ld1 (.t 125), (some (122, false)), [], false⟩,
                                  ⟨(some 127), .mv (.t 14), (some (122, false)), [], false⟩,
                                  ⟨(some 128), .iad 1 (.t 126) (.t 127), (some (122, false)), [], false⟩,
                                  ⟨(some 129), .ld1 (.t 128), (some (122, false)), [], false⟩,
                                  ⟨(some 130), .bin .lss (.t 129) (.k (.int .i64 (-1))), (some (122, false)), [], false⟩,
                                  ⟨(some 131), .pick (.t 122) (.k (.bool true)) (.t 130), none, [], false⟩])
                                (.cond (.t 131) (.seq (.reg [
                                    ⟨(some 6), .mv (.k (.bool false)), none, [], false⟩])
                                  (.ret))
                                 (.skip)))
                               (.seq (.reg [
                                  ⟨(some 132), .mv (.t 1), none, [], false⟩,
                                  ⟨(some 133), .mv (.t 14), none, [], false⟩,
                                  ⟨(some 134), .slc 6 (.t 132) none (some (.t 133)), none, [], false⟩,
                                  ⟨(some 135), .lenv false (.t 134), none, [], false⟩,
                                  ⟨(some 136), .mv (.k (.int .i64 0)), none, [], false⟩])
                                (.blk 4 (.loop (.seq (.reg [
                                     ⟨(some 137), .bin .lss (.t 136) (.t 135), none, [], false⟩])
                                   (.seq (.cond (.t 137) (.skip)
                                     (.exit 4))
                                    (.seq (.blk 5 (.seq (.reg [
                                         ⟨(some 138), .mv (.t 136), none, [], false⟩,
                                         ⟨(some 139), .iad 6 (.t 134) (.t 136), none, [], false⟩,
                                         ⟨(some 140), .ldn 6 (.t 139), none, [], false⟩,
                                         ⟨(some 19), .new [.int .i64 0, .int .i64 0, .int .i64 0, .int .i64 0, .int .i64 0, .int .i64 0], none, [], false⟩,
                                         ⟨(some 18), .mv (.t 138), none, [], false⟩,
                                         ⟨none, .st 6 (.t 19) (.t 140), none, [], false⟩])
                                       (.seq (.reg [
                                          ⟨(some 141), .mv (.t 16), none, [], false⟩,
                                          ⟨(some 142), .mv (.t 141), none, [], false⟩,
                                          ⟨(some 143), .mv (.t 10), (some (142, true)), [], false⟩,
                                          ⟨(some 144), .mv (.t 12), (some (142, true)), [], false⟩,
                                          ⟨(some 145), .iad 1 (.t 143) (.t 144), (some (142, true)), [], false⟩,
                                          ⟨(some 146), .ld1 (.t 145), (some (142, true)), [], false⟩,
                                          ⟨(some 147), .mv (.t 18), (some (142, true)), [], false⟩,
                                          ⟨(some 148), .iad 1 (.t 146) (.t 147), (some (142, true)), [], false⟩,
                                          ⟨(some 149), .ld1 (.t 148), (some (142, true)), [], false⟩,
                                          ⟨(some 150), .bin .geq (.t 149) (.k (.int .i64 0)), (some (142, true)), [], false⟩,
                                          ⟨(some 151), .pick (.t 142) (.t 150) (.k (.bool false)), none, [], false⟩,
                                          ⟨(some 152), .mv (.t 151), none, [], false⟩,
                                          ⟨(some 153), .fad 3 (.t 13), (some (152, true)), [], false⟩,
                                          ⟨(some 154), .ldn 2 (.t 153), (some (152, true)), [], false⟩,
                                          ⟨(some 155), .fad 1 (.t 15), (some (152, true)), [], false⟩,
                                          ⟨(some 156), .ldn 2 (.t 155), (some (152, true)), [], false⟩,
                                          ⟨(some 158), .fad 3 (.t 13), (some (152, true)), [], false⟩,
                                          ⟨(some 159), .ldn 2 (.t 158), (some (152, true)), [], false⟩,
                                          ⟨(some 160), .fad 1 (.t 19), (some (152, true)), [], false⟩,
                                          ⟨(some 161), .ldn 2 (.t 160), (some (152, true)), [], false⟩,
                                          ⟨(some 157), .call (.k (.fn 30 [])) [(.t 154), (.t 156)], (some (152, true)), [], true⟩,
                                          ⟨(some 162), .call (.k (.fn 30 [])) [(.t 159), (.t 161)], (some (152, true)), [], false⟩,
                                          ⟨(some 163), .bin .leq (.t 157) (.t 162), (some (152, true)), [], false⟩,
                                          ⟨(some 164), .pick (.t 152) (.t 163) (.k (.bool false)), none, [], false⟩,
                                          ⟨(some 165), .mv (.t 164), none, [], false⟩,
                                          ⟨(some 166), .mv (.t 10), (some (165, true)), [], false⟩,
                                          ⟨(some 167), .mv (.t 12), (some (165, true)), [], false⟩,
                                          ⟨(some 168), .iad 1 (.t 166) (.t 167), (some (165, true)), [], false⟩,
                                          ⟨(some 169), .ld1 (.t 168), (some (165, true)), [], false⟩,
                                          ⟨(some 170), .mv (.t 14), (some (165, true)), [], false⟩,
                                          ⟨(some 171), .iad 1 (.t 169) (.t 170), (some (165, true)), [], false⟩,
                                          ⟨(some 172), .ld1 (.t 171), (some (165, true)), [], false⟩,
                                          ⟨(some 173), .mv (.t 10), (some (165, true)), [], false⟩,
                                          ⟨(some 174), .mv (.t 12), (some (165, true)), [], false⟩,
                                          ⟨(some 175), .iad 1 (.t 173) (.t 174), (some (165, true)), [], false⟩,
                                          ⟨(some 176), .ld1 (.t 175), (some (165, true)), [], false⟩,
                                          ⟨(some 177), .mv (.t 18), (some (165, true)), [], false⟩,
                                          ⟨(some 178), .iad 1 (.t 176) (.t 177), (some (165, true)), [], false⟩,
                                          ⟨(some 179), .ld1 (.t 178), (some (165, true)), [], false⟩,
                                          ⟨(some 180), .bin .gtr (.t 172) (.t 179), (some (165, true)), [], false⟩,
                                          ⟨(some 181), .pick (.t 165) (.t 180) (.k (.bool false)), none, [], false⟩])
                                        (.cond (.t 181) (.seq (.reg [
                                            ⟨(some 6), .mv (.k (.bool false)), none, [], false⟩])
                                          (.ret))
                                         (.skip)))))
                                     (.reg [
                                       ⟨(some 182), .bin .add (.t 136) (.k (.int .i64 1)), none, [], false⟩,
                                       ⟨(some 136), .mv (.t 182), none, [], false⟩])))))))))))
                           (.reg [
                             ⟨(some 183), .bin .add (.t 96) (.k (.int .i64 1)), none, [], false⟩,
                             ⟨(some 96), .mv (.t 183), none, [], false⟩]))))))))))
                  (.reg [
                    ⟨(some 184), .bin .add (.t 81) (.k (.int .i64 1)), none, [], false⟩,
                    ⟨(some 81), .mv (.t 184), none, [], false⟩])))))))
            (.seq (.reg [
               ⟨(some 6), .mv (.k (.bool true)), none, [], false⟩])
             (.ret))))))))))
/-- skyway/skywaykeep2.ground -/
def c32 : CF where
  np := 1
  nt := 7
  res := [.cn 6 2]
  code := .seq (.reg [
      ⟨(some 2), .new [.int .i64 0, .int .i64 0, .int .i64 0, .int .i64 0, .int .i64 0, .sl true 0 0 0 0 0], none, [], false⟩])
    (.seq (.reg [
       ⟨(some 3), .mk [.int .i64 0, .int .i64 0] [(0, 1, (.k (.int .i64 1000))), (1, 1, (.k (.int .i64 (-500))))], none, [], false⟩,
       ⟨(some 4), .mv (.t 0), none, [], false⟩,
       ⟨(some 5), .mks [.int .i64 0] 1 1 [(0, 1, (.t 4))], none, [], false⟩,
       ⟨(some 6), .mk [.int .i64 0, .int .i64 0, .int .i64 0, .int .i64 0, .int .i64 0, .sl true 0 0 0 0 0] [(0, 2, (.t 3)), (2, 1, (.k (.int .i64 1000))), (3, 1, (.k (.int .i64 1))), (4, 1, (.k (.int .i64 1))), (5, 1, (.t 5))], none, [], false⟩,
       ⟨none, .st 6 (.t 2) (.t 6), none, [], false⟩])
     (.ret))
/-- skyway/terrain.Check -/
def c58 : CF where
  np := 1
  nt := 80
  res := [.t 2]
  code := .seq (.reg [
      ⟨(some 1), .box (.t 0), none, [], false⟩,
      ⟨(some 2), .mv (.k (.int .i64 0)), none, [], false⟩])
    (.seq (.blk 0 (.seq (.seq (.reg [
          ⟨(some 6), .fad 3 (.t 1), none, [], false⟩,
          ⟨(some 7), .ld1 (.t 6), none, [], false⟩,
          ⟨(some 8), .bin .lss (.t 7) (.k (.int .i64 1)), none, [], false⟩,
          ⟨(some 9), .mv (.t 8), none, [], false⟩,
          ⟨(some 10), .fad 3 (.t 1), (some (9, false)), [], false⟩,
          ⟨(some 11), .ld1 (.t 10), (some (9, false)), [], false⟩,
          ⟨(some 12), .bin .gtr (.t 11) (.k (.int .i64 32)), (some (9, false)), [], false⟩,
          ⟨(some 13), .pick (.t 9) (.k (.bool true)) (.t 12), none, [], false⟩,
          ⟨(some 14), .mv (.t 13), none, [], false⟩,
          ⟨(some 15), .fad 4 (.t 1), (some (14, false)), [], false⟩,
          ⟨(some 16), .ld1 (.t 15), (some (14, false)), [], false⟩,
          ⟨(some 17), .bin .lss (.t 16) (.k (.int .i64 1)), (some (14, false)), [], false⟩,
          ⟨(some 18), .pick (.t 14) (.k (.bool true)) (.t 17), none, [], false⟩,
          ⟨(some 19), .mv (.t 18), none, [], false⟩,
          ⟨(some 20), .fad 4 (.t 1), (some (19, false)), [], false⟩,
          ⟨(some 21), .ld1 (.t 20), (some (19, false)), [], false⟩,
          ⟨(some 22), .bin .gtr (.t 21) (.k (.int .i64 32)), (some (19, false)), [], false⟩,
          ⟨(some 23), .pick (.t 19) (.k (.bool true)) (.t 22), none, [], false⟩,
          ⟨(some 24), .mv (.t 23), none, [], false⟩,
          ⟨(some 25), .fad 2 (.t 1), (some (24, false)), [], false⟩,
          ⟨(some 26), .ld1 (.t 25), (some (24, false)), [], false⟩,
          ⟨(some 27), .bin .lss (.t 26) (.k (.int .i64 1)), (some (24, false)), [], false⟩,
          ⟨(some 28), .pick (.t 24) (.k (.bool true)) (.t 27), none, [], false⟩,
          ⟨(some 29), .mv (.t 28), none, [], false⟩,
          ⟨(some 30), .fad 2 (.t 1), (some (29, false)), [], false⟩,
          ⟨(some 31), .ld1 (.t 30), (some (29, false)), [], false⟩,
          ⟨(some 32), .bin .gtr (.t 31) (.k (.int .i64 1000000)), (some (29, false)), [], false⟩,
          ⟨(some 33), .pick (.t 29) (.k (.bool true)) (.t 32), none, [], false⟩,
          ⟨(some 5), .mv (.t 33), none, [], false⟩])
        (.cond (.t 5) (.skip)
         (.reg [
           ⟨(some 34), .fad 0 (.t 1), none, [], false⟩,
           ⟨(some 35), .fad 0 (.t 34), none, [], false⟩,
           ⟨(some 36), .ld1 (.t 35), none, [], false⟩,
           ⟨(some 37), .bin .lss (.t 36) (.k (.int .i64 (-1000000))), none, [], false⟩,
           ⟨(some 38), .mv (.t 37), none, [], false⟩,
           ⟨(some 39), .fad 0 (.t 1), (some (38, false)), [], false⟩,
           ⟨(some 40), .fad 0 (.t 39), (some (38, false)), [], false⟩,
           ⟨(some 41), .ld1 (.t 40), (some (38, false)), [], false⟩,
           ⟨(some 42), .bin .gtr (.t 41) (.k (.int .i64 1000000)), (some (38, false)), [], false⟩,
           ⟨(some 43), .pick (.t 38) (.k (.bool true)) (.t 42), none, [], false⟩,
           ⟨(some 44), .mv (.t 43), none, [], false⟩,
           ⟨(some 45), .fad 0 (.t 1), (some (44, false)), [], false⟩,
           ⟨(some 46), .fad 1 (.t 45), (some (44, false)), [], false⟩,
           ⟨(some 47), .ld1 (.t 46), (some (44, false)), [], false⟩,
           ⟨(some 48), .bin .lss (.t 47) (.k (.int .i64 (-1000000))), (some (44, false)), [], false⟩,
           ⟨(some 49), .pick (.t 44) (.k (.bool true)) (.t 48), none, [], false⟩,
           ⟨(some 50), .mv (.t 49), none, [], false⟩,
           ⟨(some 51), .fad 0 (.t 1), (some (50, false)), [], false⟩,
           ⟨(some 52), .fad 1 (.t 51), (some (50, false)), [], false⟩,
           ⟨(some 53), .ld1 (.t 52), (some (50, false)), [], false⟩,
           ⟨(some 54), .bin .gtr (.t 53) (.k (.int .i64 1000000)), (some (50, false)), [], false⟩,
           ⟨(some 55), .pick (.t 50) (.k (.bool true)) (.t 54), none, [], false⟩,
           ⟨(some 5), .mv (.t 55), none, [], false⟩])))
       (.cond (.t 5) (.seq (.reg [
           ⟨(some 2), .mv (.k (.int .i64 4)), none, [], false⟩])
         (.ret))
        (.seq (.reg [
           ⟨(some 57), .fad 5 (.t 1), none, [], false⟩,
           ⟨(some 58), .ld1 (.t 57), none, [], false⟩,
           ⟨(some 59), .lenv false (.t 58), none, [], false⟩,
           ⟨(some 60), .fad 3 (.t 1), none, [], false⟩,
           ⟨(some 61), .ld1 (.t 60), none, [], false⟩,
           ⟨(some 62), .fad 4 (.t 1), none, [], false⟩,
           ⟨(some 63), .ld1 (.t 62), none, [], false⟩,
           ⟨(some 64), .bin .mul (.t 61) (.t 63), none, [], false⟩,
           ⟨(some 65), .bin .neq (.t 59) (.t 64), none, [], false⟩,
           ⟨(some 56), .mv (.t 65), none, [], false⟩])
         (.cond (.t 56) (.seq (.reg [
             ⟨(some 2), .mv (.k (.int .i64 3)), none, [], false⟩])
           (.ret))
          (.skip))))))
     (.seq (.seq (.reg [
         ⟨(some 66), .fad 5 (.t 1), none, [], false⟩,
         ⟨(some 67), .ld1 (.t 66), none, [], false⟩,
         ⟨(some 68), .lenv false (.t 67), none, [], false⟩,
         ⟨(some 69), .mv (.k (.int .i64 0)), none, [], false⟩])
       (.blk 1 (.loop (.seq (.reg [
            ⟨(some 70), .bin .lss (.t 69) (.t 68), none, [], false⟩])
          (.seq (.cond (.t 70) (.skip)
            (.exit 1))
           (.seq (.blk 2 (.seq (.reg [
                ⟨(some 71), .iad 1 (.t 67) (.t 69), none, [], false⟩,
                ⟨(some 72), .ld1 (.t 71), none, [], false⟩,
                ⟨(some 4), .mv (.t 72), none, [], false⟩])
              (.seq (.reg [
                 ⟨(some 73), .mv (.t 4), none, [], false⟩,
                 ⟨(some 74), .bin .lss (.t 73) (.k (.int .i64 0)), none, [], false⟩,
                 ⟨(some 75), .mv (.t 74), none, [], false⟩,
                 ⟨(some 76), .mv (.t 4), (some (75, false)), [], false⟩,
                 ⟨(some 77), .bin .gtr (.t 76) (.k (.int .i64 60000)), (some (75, false)), [], false⟩,
                 ⟨(some 78), .pick (.t 75) (.k (.bool true)) (.t 77), none, [], false⟩])
               (.cond (.t 78) (.seq (.reg [
                   ⟨(some 2), .mv (.k (.int .i64 4)), none, [], false⟩])
                 (.ret))
                (.skip)))))
            (.reg [
              ⟨(some 79), .bin .add (.t 69) (.k (.int .i64 1)), none, [], false⟩,
              ⟨(some 69), .mv (.t 79), none, [], false⟩])))))))
      (.seq (.reg [
         ⟨(some 2), .mv (.k (.int .i64 0)), none, [], false⟩])
       (.ret))))
/-- skyway/terrain.outside -/
def c82 : CF where
  np := 3
  nt := 14
  res := [.t 6]
  code := .seq (.reg [
      ⟨(some 6), .mv (.k (.int .i64 0)), none, [], false⟩])
    (.seq (.reg [
       ⟨(some 7), .mv (.t 1), none, [], false⟩,
       ⟨(some 8), .mv (.t 0), none, [], false⟩,
       ⟨(some 9), .bin .sub (.t 7) (.t 8), none, [], false⟩,
       ⟨(some 10), .mv (.t 0), none, [], false⟩,
       ⟨(some 11), .mv (.t 2), none, [], false⟩,
       ⟨(some 12), .bin .sub (.t 10) (.t 11), none, [], false⟩,
       ⟨(some 13), .mnx true (.t 9) [(.t 12), (.k (.int .i64 0))], none, [], false⟩,
       ⟨(some 6), .mv (.t 13), none, [], false⟩])
     (.ret))
/-- skyway/terrain.touches -/
def c59 : CF where
  np := 5
  nt := 70
  res := [.t 10]
  code := .seq (.reg [
      ⟨(some 5), .box (.t 0), none, [], false⟩,
      ⟨(some 8), .box (.t 3), none, [], false⟩,
      ⟨(some 10), .mv (.k (.bool false)), none, [], false⟩])
    (.seq (.reg [
       ⟨(some 15), .fad 0 (.t 5), none, [], false⟩,
       ⟨(some 16), .fad 0 (.t 15), none, [], false⟩,
       ⟨(some 17), .ld1 (.t 16), none, [], false⟩,
       ⟨(some 18), .mv (.t 1), none, [], false⟩,
       ⟨(some 19), .fad 2 (.t 5), none, [], false⟩,
       ⟨(some 20), .ld1 (.t 19), none, [], false⟩,
       ⟨(some 21), .bin .mul (.t 18) (.t 20), none, [], false⟩,
       ⟨(some 22), .bin .add (.t 17) (.t 21), none, [], false⟩,
       ⟨(some 23), .fad 0 (.t 5), none, [], false⟩,
       ⟨(some 24), .fad 1 (.t 23), none, [], false⟩,
       ⟨(some 25), .ld1 (.t 24), none, [], false⟩,
       ⟨(some 26), .mv (.t 2), none, [], false⟩,
       ⟨(some 27), .fad 2 (.t 5), none, [], false⟩,
       ⟨(some 28), .ld1 (.t 27), none, [], false⟩,
       ⟨(some 29), .bin .mul (.t 26) (.t 28), none, [], false⟩,
       ⟨(some 30), .bin .add (.t 25) (.t 29), none, [], false⟩,
       ⟨(some 11), .mv (.t 22), none, [], false⟩,
       ⟨(some 12), .mv (.t 30), none, [], false⟩])
     (.seq (.reg [
        ⟨(some 31), .fad 0 (.t 8), none, [], false⟩,
        ⟨(some 32), .ld1 (.t 31), none, [], false⟩,
        ⟨(some 33), .mv (.t 11), none, [], false⟩,
        ⟨(some 34), .mv (.t 11), none, [], false⟩,
        ⟨(some 35), .fad 2 (.t 5), none, [], false⟩,
        ⟨(some 36), .ld1 (.t 35), none, [], false⟩,
        ⟨(some 37), .bin .add (.t 34) (.t 36), none, [], false⟩,
        ⟨(some 38), .bin .sub (.t 37) (.k (.int .i64 1)), none, [], false⟩,
        ⟨(some 40), .fad 1 (.t 8), none, [], false⟩,
        ⟨(some 41), .ld1 (.t 40), none, [], false⟩,
        ⟨(some 42), .mv (.t 12), none, [], false⟩,
        ⟨(some 43), .mv (.t 12), none, [], false⟩,
        ⟨(some 44), .fad 2 (.t 5), none, [], false⟩,
        ⟨(some 45), .ld1 (.t 44), none, [], false⟩,
        ⟨(some 46), .bin .add (.t 43) (.t 45), none, [], false⟩,
        ⟨(some 47), .bin .sub (.t 46) (.k (.int .i64 1)), none, [], false⟩,
        ⟨(some 39), .call (.k (.fn 82 [])) [(.t 32), (.t 33), (.t 38)], none, [], true⟩,
        ⟨(some 48), .call (.k (.fn 82 [])) [(.t 41), (.t 42), (.t 47)], none, [], false⟩,
        ⟨(some 13), .mv (.t 39), none, [], false⟩,
        ⟨(some 14), .mv (.t 48), none, [], false⟩])
      (.seq (.reg [
         ⟨(some 49), .mv (.t 13), none, [], false⟩,
         ⟨(some 50), .mv (.t 4), none, [], false⟩,
         ⟨(some 51), .bin .leq (.t 49) (.t 50), none, [], false⟩,
         ⟨(some 52), .mv (.t 51), none, [], false⟩,
         ⟨(some 53), .mv (.t 14), (some (52, true)), [], false⟩,
         ⟨(some 54), .mv (.t 4), (some (52, true)), [], false⟩,
         ⟨(some 55), .bin .leq (.t 53) (.t 54), (some (52, true)), [], false⟩,
         ⟨(some 56), .pick (.t 52) (.t 55) (.k (.bool false)), none, [], false⟩,
         ⟨(some 57), .mv (.t 56), none, [], false⟩,
         ⟨(some 58), .mv (.t 13), (some (57, true)), [], false⟩,
         ⟨(some 59), .mv (.t 13), (some (57, true)), [], false⟩,
         ⟨(some 60), .bin .mul (.t 58) (.t 59), (some (57, true)), [], false⟩,
         ⟨(some 61), .mv (.t 14), (some (57, true)), [], false⟩,
         ⟨(some 62), .mv (.t 14), (some (57, true)), [], false⟩,
         ⟨(some 63), .bin .mul (.t 61) (.t 62), (some (57, true)), [], false⟩,
         ⟨(some 64), .bin .add (.t 60) (.t 63), (some (57, true)), [], false⟩,
         ⟨(some 65), .mv (.t 4), (some (57, true)), [], false⟩,
         ⟨(some 66), .mv (.t 4), (some (57, true)), [], false⟩,
         ⟨(some 67), .bin .mul (.t 65) (.t 66), (some (57, true)), [], false⟩,
         ⟨(some 68), .bin .leq (.t 64) (.t 67), (some (57, true)), [], false⟩,
         ⟨(some 69), .pick (.t 57) (.t 68) (.k (.bool false)), none, [], false⟩,
         ⟨(some 10), .mv (.t 69), none, [], false⟩])
       (.ret))))
/-- skyway/terrain.Highest -/
def c33 : CF where
  np := 3
  nt := 71
  res := [.t 6, .t 7]
  code := .seq (.reg [
      ⟨(some 3), .box (.t 0), none, [], false⟩,
      ⟨(some 4), .box (.t 1), none, [], false⟩,
      ⟨(some 6), .mv (.k (.int .i64 0)), none, [], false⟩,
      ⟨(some 7), .mv (.k (.int .i64 0)), none, [], false⟩])
    (.seq (.seq (.reg [
        ⟨(some 12), .ldn 6 (.t 3), none, [], false⟩,
        ⟨(some 13), .call (.k (.fn 58 [])) [(.t 12)], none, [], false⟩,
        ⟨(some 8), .mv (.t 13), none, [], false⟩])
      (.seq (.reg [
         ⟨(some 14), .mv (.t 8), none, [], false⟩,
         ⟨(some 15), .bin .neq (.t 14) (.k (.int .i64 0)), none, [], false⟩])
       (.cond (.t 15) (.seq (.reg [
           ⟨(some 16), .mv (.t 8), none, [], false⟩,
           ⟨(some 6), .mv (.k (.int .i64 0)), none, [], false⟩,
           ⟨(some 7), .mv (.t 16), none, [], false⟩])
         (.ret))
        (.skip))))
     (.seq (.seq (.reg [
         ⟨(some 17), .fad 0 (.t 4), none, [], false⟩,
         ⟨(some 18), .ld1 (.t 17), none, [], false⟩,
         ⟨(some 19), .bin .lss (.t 18) (.k (.int .i64 (-1000000))), none, [], false⟩,
         ⟨(some 20), .mv (.t 19), none, [], false⟩,
         ⟨(some 21), .fad 0 (.t 4), (some (20, false)), [], false⟩,
         ⟨(some 22), .ld1 (.t 21), (some (20, false)), [], false⟩,
         ⟨(some 23), .bin .gtr (.t 22) (.k (.int .i64 1000000)), (some (20, false)), [], false⟩,
         ⟨(some 24), .pick (.t 20) (.k (.bool true)) (.t 23), none, [], false⟩,
         ⟨(some 25), .mv (.t 24), none, [], false⟩,
         ⟨(some 26), .fad 1 (.t 4), (some (25, false)), [], false⟩,
         ⟨(some 27), .ld1 (.t 26), (some (25, false)), [], false⟩,
         ⟨(some 28), .bin .lss (.t 27) (.k (.int .i64 (-1000000))), (some (25, false)), [], false⟩,
         ⟨(some 29), .pick (.t 25) (.k (.bool true)) (.t 28), none, [], false⟩,
         ⟨(some 30), .mv (.t 29), none, [], false⟩,
         ⟨(some 31), .fad 1 (.t 4), (some (30, false)), [], false⟩,
         ⟨(some 32), .ld1 (.t 31), (some (30, false)), [], false⟩,
         ⟨(some 33), .bin .gtr (.t 32) (.k (.int .i64 1000000)), (some (30, false)), [], false⟩,
         ⟨(some 34), .pick (.t 30) (.k (.bool true)) (.t 33), none, [], false⟩,
         ⟨(some 35), .mv (.t 34), none, [], false⟩,
         ⟨(some 36), .mv (.t 2), (some (35, false)), [], false⟩,
         ⟨(some 37), .bin .lss (.t 36) (.k (.int .i64 0)), (some (35, false)), [], false⟩,
         ⟨(some 38), .pick (.t 35) (.k (.bool true)) (.t 37), none, [], false⟩,
         ⟨(some 39), .mv (.t 38), none, [], false⟩,
         ⟨(some 40), .mv (.t 2), (some (39, false)), [], false⟩,
         ⟨(some 41), .bin .gtr (.t 40) (.k (.int .i64 4000000)), (some (39, false)), [], false⟩,
         ⟨(some 42), .pick (.t 39) (.k (.bool true)) (.t 41), none, [], false⟩])
       (.cond (.t 42) (.seq (.reg [
           ⟨(some 6), .mv (.k (.int .i64 0)), none, [], false⟩,
           ⟨(some 7), .mv (.k (.int .i64 4)), none, [], false⟩])
         (.ret))
        (.skip)))
      (.seq (.reg [
         ⟨(some 9), .mv (.k (.int .i64 0)), none, [], false⟩])
       (.seq (.seq (.reg [
           ⟨(some 43), .fad 5 (.t 3), none, [], false⟩,
           ⟨(some 44), .ld1 (.t 43), none, [], false⟩,
           ⟨(some 45), .lenv false (.t 44), none, [], false⟩,
           ⟨(some 46), .mv (.k (.int .i64 0)), none, [], false⟩])
         (.blk 0 (.loop (.seq (.reg [
              ⟨(some 47), .bin .lss (.t 46) (.t 45), none, [], false⟩])
            (.seq (.cond (.t 47) (.skip)
              (.exit 0))
             (.seq (.blk 1 (.seq (.reg [
                  ⟨(some 48), .mv (.t 46), none, [], false⟩,
                  ⟨(some 49), .iad 1 (.t 44) (.t 46), none, [], false⟩,
                  ⟨(some 50), .ld1 (.t 49), none, [], false⟩,
                  ⟨(some 10), .mv (.t 48), none, [], false⟩,
                  ⟨(some 11), .mv (.t 50), none, [], false⟩])
                (.seq (.reg [
                   ⟨(some 51), .mv (.t 11), none, [], false⟩,
                   ⟨(some 52), .mv (.t 9), none, [], false⟩,
                   ⟨(some 53), .bin .gtr (.t 51) (.t 52), none, [], false⟩,
                   ⟨(some 54), .mv (.t 53), none, [], false⟩,
                   ⟨(some 55), .ldn 6 (.t 3), (some (54, true)), [], false⟩,
                   ⟨(some 56), .mv (.t 10), (some (54, true)), [], false⟩,
                   ⟨(some 57), .fad 3 (.t 3), (some (54, true)), [], false⟩,
                   ⟨(some 58), .ld1 (.t 57), (some (54, true)), [], false⟩,
                   ⟨(some 59), .bin .rem (.t 56) (.t 58), (some (54, true)), [], false⟩,
                   ⟨(some 60), .mv (.t 10), (some (54, true)), [], false⟩,
                   ⟨(some 61), .fad 3 (.t 3), (some (54, true)), [], false⟩,
                   ⟨(some 62), .ld1 (.t 61), (some (54, true)), [], false⟩,
                   ⟨(some 63), .bin .quo (.t 60) (.t 62), (some (54, true)), [], false⟩,
                   ⟨(some 64), .ldn 2 (.t 4), (some (54, true)), [], false⟩,
                   ⟨(some 65), .mv (.t 2), (some (54, true)), [], false⟩,
                   ⟨(some 66), .call (.k (.fn 59 [])) [(.t 55), (.t 59), (.t 63), (.t 64), (.t 65)], (some (54, true)), [], false⟩,
                   ⟨(some 67), .pick (.t 54) (.t 66) (.k (.bool false)), none, [], false⟩])
                 (.cond (.t 67) (.reg [
                    ⟨(some 68), .mv (.t 11), none, [], false⟩,
                    ⟨(some 9), .mv (.t 68), none, [], false⟩])
                  (.skip)))))
              (.reg [
                ⟨(some 69), .bin .add (.t 46) (.k (.int .i64 1)), none, [], false⟩,
                ⟨(some 46), .mv (.t 69), none, [], false⟩])))))))
        (.seq (.reg [
           ⟨(some 70), .mv (.t 9), none, [], false⟩,
           ⟨(some 6), .mv (.t 70), none, [], false⟩,
           ⟨(some 7), .mv (.k (.int .i64 0)), none, [], false⟩])
         (.ret))))))
/-- skyway/terrain.Safe -/
def c31 : CF where
  np := 4
  nt := 31
  res := [.t 8, .t 9]
  code := .seq (.reg [
      ⟨(some 4), .box (.t 0), none, [], false⟩,
      ⟨(some 5), .box (.t 1), none, [], false⟩,
      ⟨(some 8), .mv (.k (.int .i64 0)), none, [], false⟩,
      ⟨(some 9), .mv (.k (.int .i64 0)), none, [], false⟩])
    (.seq (.reg [
       ⟨(some 13), .ldn 6 (.t 4), none, [], false⟩,
       ⟨(some 14), .ldn 2 (.t 5), none, [], false⟩,
       ⟨(some 15), .mv (.t 2), none, [], false⟩,
       ⟨(some 16), .call (.k (.fn 33 [])) [(.t 13), (.t 14), (.t 15)], none, [], false⟩,
       ⟨(some 12), .mv (.t 16), none, [], false⟩,
       ⟨(some 17), .ext (.t 12) 0, none, [], false⟩,
       ⟨(some 18), .ext (.t 12) 1, none, [], false⟩,
       ⟨(some 10), .mv (.t 17), none, [], false⟩,
       ⟨(some 11), .mv (.t 18), none, [], false⟩])
     (.seq (.seq (.reg [
         ⟨(some 19), .mv (.t 11), none, [], false⟩,
         ⟨(some 20), .bin .neq (.t 19) (.k (.int .i64 0)), none, [], false⟩])
       (.cond (.t 20) (.seq (.reg [
           ⟨(some 21), .mv (.t 11), none, [], false⟩,
           ⟨(some 8), .mv (.k (.int .i64 0)), none, [], false⟩,
           ⟨(some 9), .mv (.t 21), none, [], false⟩])
         (.ret))
        (.skip)))
      (.seq (.seq (.reg [
          ⟨(some 22), .mv (.t 3), none, [], false⟩,
          ⟨(some 23), .bin .lss (.t 22) (.k (.int .i64 0)), none, [], false⟩,
          ⟨(some 24), .mv (.t 23), none, [], false⟩,
          ⟨(some 25), .mv (.t 3), (some (24, false)), [], false⟩,
          ⟨(some 26), .bin .gtr (.t 25) (.k (.int .i64 60000)), (some (24, false)), [], false⟩,
          ⟨(some 27), .pick (.t 24) (.k (.bool true)) (.t 26), none, [], false⟩])
        (.cond (.t 27) (.seq (.reg [
            ⟨(some 8), .mv (.k (.int .i64 0)), none, [], false⟩,
            ⟨(some 9), .mv (.k (.int .i64 4)), none, [], false⟩])
          (.ret))
         (.skip)))
       (.seq (.reg [
          ⟨(some 28), .mv (.t 10), none, [], false⟩,
          ⟨(some 29), .mv (.t 3), none, [], false⟩,
          ⟨(some 30), .bin .add (.t 28) (.t 29), none, [], false⟩,
          ⟨(some 8), .mv (.t 30), none, [], false⟩,
          ⟨(some 9), .mv (.k (.int .i64 0)), none, [], false⟩])
        (.ret)))))
/-- skyway/terrain.cell -/
def c60 : CF where
  np := 3
  nt := 18
  res := [.t 6]
  code := .seq (.reg [
      ⟨(some 6), .mv (.k (.int .i64 0)), none, [], false⟩])
    (.seq (.reg [
       ⟨(some 10), .mv (.t 0), none, [], false⟩,
       ⟨(some 11), .mv (.t 1), none, [], false⟩,
       ⟨(some 12), .bin .sub (.t 10) (.t 11), none, [], false⟩,
       ⟨(some 13), .mv (.t 2), none, [], false⟩,
       ⟨(some 14), .call (.k (.fn 53 [])) [(.t 12), (.t 13)], none, [], false⟩,
       ⟨(some 9), .mv (.t 14), none, [], false⟩,
       ⟨(some 15), .ext (.t 9) 0, none, [], false⟩,
       ⟨(some 16), .ext (.t 9) 1, none, [], false⟩,
       ⟨(some 7), .mv (.t 15), none, [], false⟩,
       ⟨(some 8), .mv (.t 16), none, [], false⟩])
     (.seq (.reg [
        ⟨(some 17), .mv (.t 7), none, [], false⟩,
        ⟨(some 6), .mv (.t 17), none, [], false⟩])
      (.ret)))
/-- skyway/terrain.Height -/
def c34 : CF where
  np := 2
  nt := 76
  res := [.t 4, .t 5]
  code := .seq (.reg [
      ⟨(some 2), .box (.t 0), none, [], false⟩,
      ⟨(some 3), .box (.t 1), none, [], false⟩,
      ⟨(some 4), .mv (.k (.int .i64 0)), none, [], false⟩,
      ⟨(some 5), .mv (.k (.int .i64 0)), none, [], false⟩])
    (.seq (.seq (.reg [
        ⟨(some 9), .ldn 6 (.t 2), none, [], false⟩,
        ⟨(some 10), .call (.k (.fn 58 [])) [(.t 9)], none, [], false⟩,
        ⟨(some 6), .mv (.t 10), none, [], false⟩])
      (.seq (.reg [
         ⟨(some 11), .mv (.t 6), none, [], false⟩,
         ⟨(some 12), .bin .neq (.t 11) (.k (.int .i64 0)), none, [], false⟩])
       (.cond (.t 12) (.seq (.reg [
           ⟨(some 13), .mv (.t 6), none, [], false⟩,
           ⟨(some 4), .mv (.k (.int .i64 0)), none, [], false⟩,
           ⟨(some 5), .mv (.t 13), none, [], false⟩])
         (.ret))
        (.skip))))
     (.seq (.seq (.reg [
         ⟨(some 14), .fad 0 (.t 3), none, [], false⟩,
         ⟨(some 15), .ld1 (.t 14), none, [], false⟩,
         ⟨(some 16), .bin .lss (.t 15) (.k (.int .i64 (-1000000))), none, [], false⟩,
         ⟨(some 17), .mv (.t 16), none, [], false⟩,
         ⟨(some 18), .fad 0 (.t 3), (some (17, false)), [], false⟩,
         ⟨(some 19), .ld1 (.t 18), (some (17, false)), [], false⟩,
         ⟨(some 20), .bin .gtr (.t 19) (.k (.int .i64 1000000)), (some (17, false)), [], false⟩,
         ⟨(some 21), .pick (.t 17) (.k (.bool true)) (.t 20), none, [], false⟩,
         ⟨(some 22), .mv (.t 21), none, [], false⟩,
         ⟨(some 23), .fad 1 (.t 3), (some (22, false)), [], false⟩,
         ⟨(some 24), .ld1 (.t 23), (some (22, false)), [], false⟩,
         ⟨(some 25), .bin .lss (.t 24) (.k (.int .i64 (-1000000))), (some (22, false)), [], false⟩,
         ⟨(some 26), .pick (.t 22) (.k (.bool true)) (.t 25), none, [], false⟩,
         ⟨(some 27), .mv (.t 26), none, [], false⟩,
         ⟨(some 28), .fad 1 (.t 3), (some (27, false)), [], false⟩,
         ⟨(some 29), .ld1 (.t 28), (some (27, false)), [], false⟩,
         ⟨(some 30), .bin .gtr (.t 29) (.k (.int .i64 1000000)), (some (27, false)), [], false⟩,
         ⟨(some 31), .pick (.t 27) (.k (.bool true)) (.t 30), none, [], false⟩])
       (.cond (.t 31) (.seq (.reg [
           ⟨(some 4), .mv (.k (.int .i64 0)), none, [], false⟩,
           ⟨(some 5), .mv (.k (.int .i64 4)), none, [], false⟩])
         (.ret))
        (.skip)))
      (.seq (.reg [
         ⟨(some 32), .fad 0 (.t 3), none, [], false⟩,
         ⟨(some 33), .ld1 (.t 32), none, [], false⟩,
         ⟨(some 34), .fad 0 (.t 2), none, [], false⟩,
         ⟨(some 35), .fad 0 (.t 34), none, [], false⟩,
         ⟨(some 36), .ld1 (.t 35), none, [], false⟩,
         ⟨(some 37), .fad 2 (.t 2), none, [], false⟩,
         ⟨(some 38), .ld1 (.t 37), none, [], false⟩,
         ⟨(some 40), .fad 1 (.t 3), none, [], false⟩,
         ⟨(some 41), .ld1 (.t 40), none, [], false⟩,
         ⟨(some 42), .fad 0 (.t 2), none, [], false⟩,
         ⟨(some 43), .fad 1 (.t 42), none, [], false⟩,
         ⟨(some 44), .ld1 (.t 43), none, [], false⟩,
         ⟨(some 45), .fad 2 (.t 2), none, [], false⟩,
         ⟨(some 46), .ld1 (.t 45), none, [], false⟩,
         ⟨(some 39), .call (.k (.fn 60 [])) [(.t 33), (.t 36), (.t 38)], none, [], true⟩,
         ⟨(some 47), .call (.k (.fn 60 [])) [(.t 41), (.t 44), (.t 46)], none, [], false⟩,
         ⟨(some 7), .mv (.t 39), none, [], false⟩,
         ⟨(some 8), .mv (.t 47), none, [], false⟩])
       (.seq (.seq (.reg [
           ⟨(some 48), .mv (.t 7), none, [], false⟩,
           ⟨(some 49), .bin .lss (.t 48) (.k (.int .i64 0)), none, [], false⟩,
           ⟨(some 50), .mv (.t 49), none, [], false⟩,
           ⟨(some 51), .mv (.t 7), (some (50, false)), [], false⟩,
           ⟨(some 52), .fad 3 (.t 2), (some (50, false)), [], false⟩,
           ⟨(some 53), .ld1 (.t 52), (some (50, false)), [], false⟩,
           ⟨(some 54), .bin .geq (.t 51) (.t 53), (some (50, false)), [], false⟩,
           ⟨(some 55), .pick (.t 50) (.k (.bool true)) (.t 54), none, [], false⟩,
           ⟨(some 56), .mv (.t 55), none, [], false⟩,
           ⟨(some 57), .mv (.t 8), (some (56, false)), [], false⟩,
           ⟨(some 58), .bin .lss (.t 57) (.k (.int .i64 0)), (some (56, false)), [], false⟩,
           ⟨(some 59), .pick (.t 56) (.k (.bool true)) (.t 58), none, [], false⟩,
           ⟨(some 60), .mv (.t 59), none, [], false⟩,
           ⟨(some 61), .mv (.t 8), (some (60, false)), [], false⟩,
           ⟨(some 62), .fad 4 (.t 2), (some (60, false)), [], false⟩,
           ⟨(some 63), .ld1 (.t 62), (some (60, false)), [], false⟩,
           ⟨(some 64), .bin .geq (.t 61) (.t 63), (some (60, false)), [], false⟩,
           ⟨(some 65), .pick (.t 60) (.k (.bool true)) (.t 64), none, [], false⟩])
         (.cond (.t 65) (.seq (.reg [
             ⟨(some 4), .mv (.k (.int .i64 0)), none, [], false⟩,
             ⟨(some 5), .mv (.k (.int .i64 0)), none, [], false⟩])
           (.ret))
          (.skip)))
        (.seq (.reg [
           ⟨(some 66), .fad 5 (.t 2), none, [], false⟩,
           ⟨(some 67), .ld1 (.t 66), none, [], false⟩,
           ⟨(some 68), .mv (.t 8), none, [], false⟩,
           ⟨(some 69), .fad 3 (.t 2), none, [], false⟩,
           ⟨(some 70), .ld1 (.t 69), none, [], false⟩,
           ⟨(some 71), .bin .mul (.t 68) (.t 70), none, [], false⟩,
           ⟨(some 72), .mv (.t 7), none, [], false⟩,
           ⟨(some 73), .bin .add (.t 71) (.t 72), none, [], false⟩,
           ⟨(some 74), .iad 1 (.t 67) (.t 73), none, [], false⟩,
           ⟨(some 75), .ld1 (.t 74), none, [], false⟩,
           ⟨(some 4), .mv (.t 75), none, [], false⟩,
           ⟨(some 5), .mv (.k (.int .i64 0)), none, [], false⟩])
         (.ret))))))
theorem ok15 : cFunc Try.prog Try.f15 = some c15 := by kernel_rfl
theorem ok76 : cFunc Try.prog Try.f76 = some c76 := by kernel_rfl
theorem ok46 : cFunc Try.prog Try.f46 = some c46 := by kernel_rfl
theorem ok47 : cFunc Try.prog Try.f47 = some c47 := by kernel_rfl
theorem ok16 : cFunc Try.prog Try.f16 = some c16 := by kernel_rfl
theorem ok3 : cFunc Try.prog Try.f3 = some c3 := by kernel_rfl
theorem ok17 : cFunc Try.prog Try.f17 = some c17 := by kernel_rfl
theorem ok4 : cFunc Try.prog Try.f4 = some c4 := by kernel_rfl
theorem ok77 : cFunc Try.prog Try.f77 = some c77 := by kernel_rfl
theorem ok78 : cFunc Try.prog Try.f78 = some c78 := by kernel_rfl
theorem ok79 : cFunc Try.prog Try.f79 = some c79 := by kernel_rfl
theorem ok48 : cFunc Try.prog Try.f48 = some c48 := by kernel_rfl
theorem ok18 : cFunc Try.prog Try.f18 = some c18 := by kernel_rfl
theorem ok19 : cFunc Try.prog Try.f19 = some c19 := by kernel_rfl
theorem ok5 : cFunc Try.prog Try.f5 = some c5 := by kernel_rfl
theorem ok20 : cFunc Try.prog Try.f20 = some c20 := by kernel_rfl
theorem ok21 : cFunc Try.prog Try.f21 = some c21 := by kernel_rfl
theorem ok6 : cFunc Try.prog Try.f6 = some c6 := by kernel_rfl
theorem ok23 : cFunc Try.prog Try.f23 = some c23 := by kernel_rfl
theorem ok80 : cFunc Try.prog Try.f80 = some c80 := by kernel_rfl
theorem ok49 : cFunc Try.prog Try.f49 = some c49 := by kernel_rfl
theorem ok53 : cFunc Try.prog Try.f53 = some c53 := by kernel_rfl
theorem ok50 : cFunc Try.prog Try.f50 = some c50 := by kernel_rfl
theorem ok22 : cFunc Try.prog Try.f22 = some c22 := by kernel_rfl
theorem ok7 : cFunc Try.prog Try.f7 = some c7 := by kernel_rfl
theorem ok81 : cFunc Try.prog Try.f81 = some c81 := by kernel_rfl
theorem ok56 : cFunc Try.prog Try.f56 = some c56 := by kernel_rfl
theorem ok51 : cFunc Try.prog Try.f51 = some c51 := by kernel_rfl
theorem ok24 : cFunc Try.prog Try.f24 = some c24 := by kernel_rfl
theorem ok25 : cFunc Try.prog Try.f25 = some c25 := by kernel_rfl
theorem ok26 : cFunc Try.prog Try.f26 = some c26 := by kernel_rfl
theorem ok8 : cFunc Try.prog Try.f8 = some c8 := by kernel_rfl
theorem ok52 : cFunc Try.prog Try.f52 = some c52 := by kernel_rfl
theorem ok27 : cFunc Try.prog Try.f27 = some c27 := by kernel_rfl
theorem ok9 : cFunc Try.prog Try.f9 = some c9 := by kernel_rfl
theorem ok55 : cFunc Try.prog Try.f55 = some c55 := by kernel_rfl
theorem ok54 : cFunc Try.prog Try.f54 = some c54 := by kernel_rfl
theorem ok57 : cFunc Try.prog Try.f57 = some c57 := by kernel_rfl
theorem ok29 : cFunc Try.prog Try.f29 = some c29 := by kernel_rfl
theorem ok28 : cFunc Try.prog Try.f28 = some c28 := by kernel_rfl
theorem ok30 : cFunc Try.prog Try.f30 = some c30 := by kernel_rfl
theorem ok10 : cFunc Try.prog Try.f10 = some c10 := by kernel_rfl
theorem ok32 : cFunc Try.prog Try.f32 = some c32 := by kernel_rfl
theorem ok58 : cFunc Try.prog Try.f58 = some c58 := by kernel_rfl
theorem ok82 : cFunc Try.prog Try.f82 = some c82 := by kernel_rfl
theorem ok59 : cFunc Try.prog Try.f59 = some c59 := by kernel_rfl
theorem ok33 : cFunc Try.prog Try.f33 = some c33 := by kernel_rfl
theorem ok31 : cFunc Try.prog Try.f31 = some c31 := by kernel_rfl
theorem ok60 : cFunc Try.prog Try.f60 = some c60 := by kernel_rfl
theorem ok34 : cFunc Try.prog Try.f34 = some c34 := by kernel_rfl
end Go.Proofs.Ytpcmmbbkidojoaa.CodeAll
